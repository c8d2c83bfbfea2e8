/- The law AutomatonSums returns true for every input: the counts of the different words of a text add up to their number. Conditions: none. -/
import Derived.Test.YtbakoigejihnaaaMRef
import Derived.Shelf.SlicesQ.Reverse
/- Reference functions: what they compute and that the code computes it. -/
namespace Go.Proofs.Ytbakoigejihnaaa.Ref
open Go.RowKit Go.Proofs.YtbakoigejihnaaaW.PrintWords Go.Proofs.YtbakoigejihnaaaW.PrintLast Go.Proofs.YtbakoigejihnaaaW.PrintMore
attribute [local go_sem] max2_int min2_int max_two min_two max_three min_three max_four min_four   -- for this text's walks alone
set_option linter.unusedVariables false
set_option linter.unusedSimpArgs false

/-! ### licitref27_Ends: function 22 -/
mutual
def licitref27_Ends.l0 : Nat → List (S41) → List (S41) → List Int → Int → Option (List Int)
  | 0, _, _, _, _ => none
  | k + 1, x0, x1, x5, x6 => if x6 < (x1.length : Int) then (licitref27_Ends.l1 k x0 x1 x5 x6 (wrap64 (x6 + 1))) else (some x5)
def licitref27_Ends.l1 : Nat → List (S41) → List (S41) → List Int → Int → Int → Option (List Int)
  | 0, _, _, _, _, _ => none
  | k + 1, x0, x1, x5, x6, x7 => if 0 ≤ (wrap64 ((wrap64 (x6 + 1)) - x7)) then (if (wrap64 ((wrap64 (x6 + 1)) - x7)) ≤ (wrap64 (x6 + 1)) then (if (wrap64 (x6 + 1)) ≤ (x1.length : Int) then ((licitref27_First.f k x0 ((x1.take ((wrap64 (x6 + 1)) : Int).toNat).drop ((wrap64 ((wrap64 (x6 + 1)) - x7)) : Int).toNat)).bind fun t122 => (if t122 < 0 then (licitref27_Ends.l1 k x0 x1 x5 x6 (wrap64 (x7 - 1))) else (if x5.length < 17592186044416 then (licitref27_Ends.l0 k x0 x1 (x5 ++ [x7]) (wrap64 (x6 + 1))) else (none)))) else (none)) else (none)) else (none)
end
def licitref27_Ends.f (k : Nat) (l0 : List (S41)) (l1 : List (S41)) : Option (List Int) := licitref27_Ends.l0 k l0 l1 (([] : List Int)) 0
theorem licitref27_Ends.mono_l : ∀ k, (∀ y0 y1 y2 y3, LeO (licitref27_Ends.l0 k y0 y1 y2 y3) (licitref27_Ends.l0 (k + 1) y0 y1 y2 y3)) ∧ (∀ y0 y1 y2 y3 y4, LeO (licitref27_Ends.l1 k y0 y1 y2 y3 y4) (licitref27_Ends.l1 (k + 1) y0 y1 y2 y3 y4))
  | 0 => ⟨fun _ _ _ _ r h => by simp [licitref27_Ends.l0] at h, fun _ _ _ _ _ r h => by simp [licitref27_Ends.l1] at h⟩
  | k + 1 => by
    obtain ⟨ih0, ih1⟩ := licitref27_Ends.mono_l k
    refine ⟨?_, ?_⟩
    · intro y0 y1 y2 y3
      unfold licitref27_Ends.l0
      repeat' first
      | (with_reducible exact ih0 _ _ _ _)
      | (with_reducible exact ih1 _ _ _ _ _)
      | (with_reducible exact licitref27_First.mono _ _ _)
      | (with_reducible exact LeO.refl _)
      | (with_reducible exact LeO.none _)
      | (with_reducible refine LeO.ite ?_ ?_)
      | (with_reducible refine LeO.bind ?_ (fun _ => ?_))
      | exact ih0 _ _ _ _
      | exact ih1 _ _ _ _ _
      | exact licitref27_First.mono _ _ _
      | exact LeO.none _
      | refine LeO.ite ?_ ?_
      | refine LeO.bind ?_ (fun _ => ?_)
    · intro y0 y1 y2 y3 y4
      unfold licitref27_Ends.l1
      repeat' first
      | (with_reducible exact ih0 _ _ _ _)
      | (with_reducible exact ih1 _ _ _ _ _)
      | (with_reducible exact licitref27_First.mono _ _ _)
      | (with_reducible exact LeO.refl _)
      | (with_reducible exact LeO.none _)
      | (with_reducible refine LeO.ite ?_ ?_)
      | (with_reducible refine LeO.bind ?_ (fun _ => ?_))
      | exact ih0 _ _ _ _
      | exact ih1 _ _ _ _ _
      | exact licitref27_First.mono _ _ _
      | exact LeO.none _
      | refine LeO.ite ?_ ?_
      | refine LeO.bind ?_ (fun _ => ?_)
theorem licitref27_Ends.mono : ∀ a0 a1 k, LeO (licitref27_Ends.f k a0 a1) (licitref27_Ends.f (k + 1) a0 a1) := by
  intro a0 a1 k
  obtain ⟨ih0, ih1⟩ := licitref27_Ends.mono_l k
  unfold licitref27_Ends.f
  repeat' first
      | (with_reducible exact ih0 _ _ _ _)
      | (with_reducible exact ih1 _ _ _ _ _)
      | (with_reducible exact licitref27_First.mono _ _ _)
      | (with_reducible exact LeO.refl _)
      | (with_reducible exact LeO.none _)
      | (with_reducible refine LeO.ite ?_ ?_)
      | (with_reducible refine LeO.bind ?_ (fun _ => ?_))
      | exact ih0 _ _ _ _
      | exact ih1 _ _ _ _ _
      | exact licitref27_First.mono _ _ _
      | exact LeO.none _
      | refine LeO.ite ?_ ?_
      | refine LeO.bind ?_ (fun _ => ?_)
set_option maxHeartbeats 8000000 in
set_option maxRecDepth 100000 in
theorem licitref27_Ends.calls (k : Nat) (A0 : Option Addr) (c0 : Nat) (l0 : List (S41)) (A1 : Option Addr) (c1 : Nat) (l1 : List (S41)) (r : List Int) (w : World) (hr0 : Kd.C k41 w A0 l0.length l0) (hc0 : l0.length ≤ c0) (hr1 : Kd.C k41 w A1 l1.length l1) (hc1 : l1.length ≤ c1) (h : licitref27_Ends.f k l0 l1 = some r) :
    Calls Try.prog 22 #[.slice A0 l0.length c0, .slice A1 l1.length c1] w fun e w' => ∃ v0_ : Value, e = .returned (v0_) ∧ Kd.R (Kd.int .i64) 3 w' w.heap.size (fun _ => True) v0_ r ∧ Below w.heap.size w w' := by
  have HR0 := Aside0.mk hr0
  have HC0 := Aside0.mk hc0
  clear hr0 hc0
  have HR1 := Aside0.mk hr1
  have HC1 := Aside0.mk hc1
  clear hr1 hc1
  have HB := Aside0.mk (Below.refl w.heap.size w)
  have H : (licitref27_Ends.l0 k l0 l1 (([] : List Int)) 0) = some r := h
  clear h
  obtain ⟨y115, hy115⟩ : ∃ y_ : List Int, y_ = (([] : List Int)) := ⟨_, rfl⟩
  replace H : (licitref27_Ends.l0 k l0 l1 y115 0) = some r := by first | (rw [hy115]; with_reducible exact H) | (have H2_ := (Option.bind_some _ _).symm.trans H; rw [hy115]; with_reducible exact H2_) | (have H2_ := (Option.bind_some _ _).symm.trans H; with_reducible exact H2_) | with_reducible exact H | (rw [hy115]; exact H) | exact H
  have Ny115 := Aside0.mk hy115
  clear hy115
  have H' := Aside0.mk H
  clear H
  go_enter Try.func22, Try.ntmps22
  go_wp2_with (first | ((with_reducible refine gate_dst (N := 8) rfl ?_); refine Kd.R_lit (Kd.int .i64) _ 3 ?hg (N := 8) ?hd (xs := ([] : List Int)) (inner := []) (ok := fun _ => True) (okp := fun _ => True) ?hr ?hp (fun _ hk => hk) trivial (Below.refl _ _) (Nat.le_refl _) (by simp) ?_; (case hd => rfl); (case hg => rfl); (case hr => first | (go_simp; done) | (go_simp; rfl)); (case hp => exact (Reps.none _ _)); intro v116 w3 ho4 hb hg_ hnew_; clear hg_ hnew_; (first | rw [← Ny115.out] at ho4 | (simp only [Int.reduceToNat] at ho4; rw [← Ny115.out] at ho4)); have n0_ := Aside0.mk (Kd.R_lower ho4 (below_size (by repeat (first | (with_reducible first | exact HB.out | apply below_alloc | apply pw_below_drewN | apply below_drew1) | exact HB.out)))); have n1_ := Aside0.mk (below_step (by repeat (first | (with_reducible first | exact HB.out | apply below_alloc | apply pw_below_drewN | apply below_drew1) | exact HB.out)) hb); clear HB; have HO117 := n0_; have HB := n1_; clear n0_ n1_; clear hb ho4))
  go_loopg [5, 6] k (fun kq v5 v6 w' => ∃ (x5_1 : List Int) (x6_1 : Int), v6 = .int .i64 x6_1 ∧ Aside0 (licitref27_Ends.l0 kq l0 l1 x5_1 x6_1 = some r) ∧ Aside0 (kq ≤ k) ∧ Aside0 (Kd.R (Kd.int .i64) 3 w' w.heap.size (fun _ => True) v5 x5_1) ∧ Aside0 (Below w.heap.size w w'))
  case atStart => exact ⟨(y115), (0), (by first | rfl | (simp; done) | (simp [*]; done)), H', ⟨Nat.le_refl _⟩, ⟨by (with_reducible repeat (first | apply Kd.R_alloc | apply Kd.R_drewN | apply Kd.R_drew)); exact HO117.out⟩, ⟨by repeat (first | (with_reducible first | exact HB.out | apply below_alloc | apply pw_below_drewN | apply below_drew1) | exact HB.out)⟩⟩
  case round =>
    clear H'
    try clear c1
    try clear c2
    try clear p2
    obtain ⟨x5_1, x6_1, rfl, HA, HK1, HO_5, HB⟩ := hrel
    cases gk with
    | zero => exact absurd HA.out (by simp [licitref27_Ends.l0])
    | succ k1 =>
      have H := HA.out
      clear HA
      simp only [licitref27_Ends.l0] at H
      by_cases c5 : x6_1 < (l1.length : Int)
      · rw [if_pos c5] at H
        have c5b0 : decide (x6_1 < (l1.length : Int)) = true := decide_eq_true c5
        clear c5
        have H' := Aside0.mk H
        clear H
        go_wp2
        go_loopg [7] k1 (fun kq v7 w' => ∃ (x7_2 : Int), v7 = .int .i64 x7_2 ∧ Aside0 (licitref27_Ends.l1 kq l0 l1 x5_1 x6_1 x7_2 = some r) ∧ Aside0 (kq ≤ k1) ∧ Aside0 (Kd.R (Kd.int .i64) 3 w' w.heap.size (fun _ => True) u5 x5_1) ∧ Aside0 (Below w.heap.size w w'))
        case atStart => exact ⟨(wrap64 (x6_1 + 1)), (by first | rfl | (simp; done) | (simp [*]; done)), H', ⟨Nat.le_refl _⟩, ⟨by (with_reducible repeat (first | apply Kd.R_alloc | apply Kd.R_drewN | apply Kd.R_drew)); exact HO_5.out⟩, ⟨by repeat (first | (with_reducible first | exact HB.out | apply below_alloc | apply pw_below_drewN | apply below_drew1) | exact HB.out)⟩⟩
        case round =>
          clear H'
          try clear c1
          try clear c2
          try clear p2
          try clear c5
          try clear c5b0
          try clear p2
          obtain ⟨x7_2, rfl, HA, HK2, HO_5, HB⟩ := hrel
          cases gk with
          | zero => exact absurd HA.out (by simp [licitref27_Ends.l1])
          | succ k2 =>
            have H := HA.out
            clear HA
            simp only [licitref27_Ends.l1] at H
            obtain ⟨ji6, hji6⟩ : ∃ j_ : Int, (wrap64 ((wrap64 (x6_1 + 1)) - x7_2)) = j_ := ⟨_, rfl⟩
            replace H : (if 0 ≤ (ji6) then (if (ji6) ≤ (wrap64 (x6_1 + 1)) then (if (wrap64 (x6_1 + 1)) ≤ (l1.length : Int) then ((licitref27_First.f k2 l0 ((l1.take ((wrap64 (x6_1 + 1)) : Int).toNat).drop ((ji6) : Int).toNat)).bind fun t122 => (if t122 < 0 then (licitref27_Ends.l1 k2 l0 l1 x5_1 x6_1 (wrap64 (x7_2 - 1))) else (if x5_1.length < 17592186044416 then (licitref27_Ends.l0 k2 l0 l1 (x5_1 ++ [x7_2]) (wrap64 (x6_1 + 1))) else (none)))) else (none)) else (none)) else (none)) = some r := by first | (rw [hji6] at H; exact H) | (simp only [hji6] at H ⊢; exact H)
            have hji6w : (IntKind.i64.wrap ((wrap64 (x6_1 + 1)) - x7_2)) = ji6 := (i64_w _).trans hji6
            by_cases c7 : 0 ≤ (ji6)
            · rw [if_pos c7] at H
              have c7b0 := eq_true c7
              have c7b1 : decide (0 ≤ (ji6)) = true := decide_eq_true c7
              clear c7
              by_cases c8 : (ji6) ≤ (wrap64 (x6_1 + 1))
              · rw [if_pos c8] at H
                have c8b0 := eq_true c8
                have c8b1 : decide ((ji6) ≤ (wrap64 (x6_1 + 1))) = true := decide_eq_true c8
                by_cases c9 : (wrap64 (x6_1 + 1)) ≤ (l1.length : Int)
                · rw [if_pos c9] at H
                  have c9b0 := eq_true c9
                  have c9b1 : decide ((wrap64 (x6_1 + 1)) ≤ (l1.length : Int)) = true := decide_eq_true c9
                  obtain ⟨y118, hy118⟩ : ∃ y_ : List (S41), y_ = ((l1.take ((wrap64 (x6_1 + 1)) : Int).toNat).drop ((ji6) : Int).toNat) := ⟨_, rfl⟩
                  replace H : ((licitref27_First.f k2 l0 y118).bind fun t122 => (if t122 < 0 then (licitref27_Ends.l1 k2 l0 l1 x5_1 x6_1 (wrap64 (x7_2 - 1))) else (if x5_1.length < 17592186044416 then (licitref27_Ends.l0 k2 l0 l1 (x5_1 ++ [x7_2]) (wrap64 (x6_1 + 1))) else (none)))) = some r := by first | (rw [hy118]; with_reducible exact H) | (have H2_ := (Option.bind_some _ _).symm.trans H; rw [hy118]; with_reducible exact H2_) | (have H2_ := (Option.bind_some _ _).symm.trans H; with_reducible exact H2_) | with_reducible exact H | (rw [hy118]; exact H) | exact H
                  have Ny118 := Aside0.mk hy118
                  clear hy118
                  replace H := Option.bind_eq_some_iff.mp H
                  obtain ⟨t122, A100, H⟩ := H
                  replace H : (if t122 < 0 then (licitref27_Ends.l1 k2 l0 l1 x5_1 x6_1 (wrap64 (x7_2 - 1))) else (if x5_1.length < 17592186044416 then (licitref27_Ends.l0 k2 l0 l1 (x5_1 ++ [x7_2]) (wrap64 (x6_1 + 1))) else (none))) = some r := H
                  have A10 := Aside0.mk A100
                  clear A100
                  by_cases c11 : t122 < 0
                  · rw [if_pos c11] at H
                    have c11b0 : decide (t122 < 0) = true := decide_eq_true c11
                    clear c11
                    have H' := Aside0.mk H
                    clear H
                    have q12 : ((wrap64 (x6_1 + 1)) : Int) ≤ ((l1.length : Int) : Int) := of_decide_eq_true (by first | (with_reducible assumption) | assumption)
                    obtain ⟨i012, hi012, _, hsz12, _⟩ := info_parts info41
                    have hroom12 : l1.length ≤ c1 := HC1.out
                    have hC12 : Kd.C k41 _ A1 l1.length l1 := HR1.out
                    have ql12 : ((ji6) : Int) ≤ ((wrap64 (x6_1 + 1)) : Int) := of_decide_eq_true (by first | (with_reducible assumption) | assumption)
                    have q012 : (0 : Int) ≤ ((ji6) : Int) := of_decide_eq_true (by first | (with_reducible assumption) | assumption)
                    have hcut12 := cut_mid (P := Try.prog) 22 41 .i64 .i64 Try.underlying22 hi012 2 hsz12 A1 l1.length c1 (ji6) (wrap64 (x6_1 + 1)) q012 ql12 q12 hroom12
                    have hr12 := Kd.C_mid (lo := ((ji6) : Int).toNat) (hi := ((wrap64 (x6_1 + 1)) : Int).toNat) (c := c1) hC12 (by omega) (by omega) hroom12
                    obtain ⟨A12, hA12⟩ : ∃ A1_, A1_ = (if c1 = ((ji6) : Int).toNat then A1 else (A1 : Option Addr).map (·.add (((ji6) : Int).toNat * 2))) := ⟨_, rfl⟩
                    obtain ⟨c12, hc12⟩ : ∃ c1_, c1_ = c1 - ((ji6) : Int).toNat := ⟨_, rfl⟩
                    have hy12 : y118.length = ((wrap64 (x6_1 + 1)) : Int).toNat - ((ji6) : Int).toNat := (by rw [Ny118.out, List.length_drop, List.length_take] <;> omega)
                    rw [show ((l1).take ((wrap64 (x6_1 + 1)) : Int).toNat).drop ((ji6) : Int).toNat = y118 from Ny118.out.symm] at hr12
                    replace hr12 : Kd.C k41 _ A12 y118.length y118 := (by rw [hA12]; exact hr12)
                    rw [← hy12, ← hA12, ← hc12] at hcut12
                    have HR121 := Aside0.mk hr12
                    have HC121 := Aside0.mk (show y118.length ≤ c12 from by rw [hy12, hc12]; exact Nat.sub_le_sub_right (Nat.le_trans (by omega) hroom12) _)
                    clear hr12 hC12 hroom12 hi012 hsz12 hc12
                    have KY12 := Aside0.mk hy12
                    have KA12 := Aside0.mk hA12
                    clear hy12 hA12
                    replace q12 := eq_true q12
                    go_wp2_with (first | ((with_reducible refine gate_callee (f := 24) rfl ?_); refine goesL_ (some 26) rfl rfl Try.func24 (by kernel_rfl) rfl #[.slice A0 l0.length c0, .slice A12 y118.length c12] rfl (by (try simp only [List.map_toArray, List.map_cons, List.map_nil]); first | done | rfl | (simp only [List.length_drop, List.length_take]; rfl)) ?_; (with_reducible refine (licitref27_First.calls k2 _ _ l0 _ _ y118 t122 _ ?side1 ?side2 ?side3 ?side4 A10.out).mono ?_); (case side1 => repeat (first | exact (Kd.C_below HR0.out HB.out) | (with_reducible refine Kd.C_alloc ?_ _) | (with_reducible refine Kd.C_drewN ?_ _) | (with_reducible refine Kd.C_drew ?_))); (case side2 => exact HC0.out); (case side3 => repeat (first | exact (Kd.C_below HR121.out HB.out) | (with_reducible refine Kd.C_alloc ?_ _) | (with_reducible refine Kd.C_drewN ?_ _) | (with_reducible refine Kd.C_drew ?_))); (case side4 => exact HC121.out); rintro e w' ⟨rfl, ⟨nd, rfl⟩⟩; refine ⟨_, rfl, ?_⟩))
                    go_roundg k2
                    case measure => have := HK1.out; have := HK2.out; omega
                    case rel => exact ⟨(wrap64 (x7_2 - 1)), (by first | rfl | (simp; done) | (simp [*]; done)), H', ⟨by have := HK1.out; have := HK2.out; omega⟩, ⟨by (with_reducible repeat (first | apply Kd.R_alloc | apply Kd.R_drewN | apply Kd.R_drew)); exact HO_5.out⟩, ⟨by repeat (first | (with_reducible first | exact HB.out | apply below_alloc | apply pw_below_drewN | apply below_drew1) | exact HB.out)⟩⟩
                  · rw [if_neg c11] at H
                    have c11b0 : decide (t122 < 0) = false := decide_eq_false c11
                    clear c11
                    by_cases c13 : x5_1.length < 17592186044416
                    · rw [if_pos c13] at H
                      have LMc13 := Aside0.mk c13
                      clear c13
                      obtain ⟨y123, hy123⟩ : ∃ y_ : List Int, y_ = (x5_1 ++ [x7_2]) := ⟨_, rfl⟩
                      replace H : (licitref27_Ends.l0 k2 l0 l1 y123 (wrap64 (x6_1 + 1))) = some r := by first | (rw [hy123]; with_reducible exact H) | (have H2_ := (Option.bind_some _ _).symm.trans H; rw [hy123]; with_reducible exact H2_) | (have H2_ := (Option.bind_some _ _).symm.trans H; with_reducible exact H2_) | with_reducible exact H | (rw [hy123]; exact H) | exact H
                      have Ny123 := Aside0.mk hy123
                      clear hy123
                      have H' := Aside0.mk H
                      clear H
                      have q14 : ((wrap64 (x6_1 + 1)) : Int) ≤ ((l1.length : Int) : Int) := of_decide_eq_true (by first | (with_reducible assumption) | assumption)
                      obtain ⟨i014, hi014, _, hsz14, _⟩ := info_parts info41
                      have hroom14 : l1.length ≤ c1 := HC1.out
                      have hC14 : Kd.C k41 _ A1 l1.length l1 := HR1.out
                      have ql14 : ((ji6) : Int) ≤ ((wrap64 (x6_1 + 1)) : Int) := of_decide_eq_true (by first | (with_reducible assumption) | assumption)
                      have q014 : (0 : Int) ≤ ((ji6) : Int) := of_decide_eq_true (by first | (with_reducible assumption) | assumption)
                      have hcut14 := cut_mid (P := Try.prog) 22 41 .i64 .i64 Try.underlying22 hi014 2 hsz14 A1 l1.length c1 (ji6) (wrap64 (x6_1 + 1)) q014 ql14 q14 hroom14
                      have hr14 := Kd.C_mid (lo := ((ji6) : Int).toNat) (hi := ((wrap64 (x6_1 + 1)) : Int).toNat) (c := c1) hC14 (by omega) (by omega) hroom14
                      obtain ⟨A14, hA14⟩ : ∃ A1_, A1_ = (if c1 = ((ji6) : Int).toNat then A1 else (A1 : Option Addr).map (·.add (((ji6) : Int).toNat * 2))) := ⟨_, rfl⟩
                      obtain ⟨c14, hc14⟩ : ∃ c1_, c1_ = c1 - ((ji6) : Int).toNat := ⟨_, rfl⟩
                      have hy14 : y118.length = ((wrap64 (x6_1 + 1)) : Int).toNat - ((ji6) : Int).toNat := (by rw [Ny118.out, List.length_drop, List.length_take] <;> omega)
                      rw [show ((l1).take ((wrap64 (x6_1 + 1)) : Int).toNat).drop ((ji6) : Int).toNat = y118 from Ny118.out.symm] at hr14
                      replace hr14 : Kd.C k41 _ A14 y118.length y118 := (by rw [hA14]; exact hr14)
                      rw [← hy14, ← hA14, ← hc14] at hcut14
                      have HR121 := Aside0.mk hr14
                      have HC121 := Aside0.mk (show y118.length ≤ c14 from by rw [hy14, hc14]; exact Nat.sub_le_sub_right (Nat.le_trans (by omega) hroom14) _)
                      clear hr14 hC14 hroom14 hi014 hsz14 hc14
                      have KY14 := Aside0.mk hy14
                      have KA14 := Aside0.mk hA14
                      clear hy14 hA14
                      replace q14 := eq_true q14
                      go_wp2_with (first | ((with_reducible refine gate_callee (f := 24) rfl ?_); refine goesL_ (some 26) rfl rfl Try.func24 (by kernel_rfl) rfl #[.slice A0 l0.length c0, .slice A14 y118.length c14] rfl (by (try simp only [List.map_toArray, List.map_cons, List.map_nil]); first | done | rfl | (simp only [List.length_drop, List.length_take]; rfl)) ?_; (with_reducible refine (licitref27_First.calls k2 _ _ l0 _ _ y118 t122 _ ?side1 ?side2 ?side3 ?side4 A10.out).mono ?_); (case side1 => repeat (first | exact (Kd.C_below HR0.out HB.out) | (with_reducible refine Kd.C_alloc ?_ _) | (with_reducible refine Kd.C_drewN ?_ _) | (with_reducible refine Kd.C_drew ?_))); (case side2 => exact HC0.out); (case side3 => repeat (first | exact (Kd.C_below HR121.out HB.out) | (with_reducible refine Kd.C_alloc ?_ _) | (with_reducible refine Kd.C_drewN ?_ _) | (with_reducible refine Kd.C_drew ?_))); (case side4 => exact HC121.out); rintro e w' ⟨rfl, ⟨nd, rfl⟩⟩; refine ⟨_, rfl, ?_⟩) | ((with_reducible refine gate_builtin (b := .append) (xs := #[.tmp 30, .tmp 32]) rfl ?_); at_builtin; refine Kd.R_append (Kd.int .i64) (w0 := w) w.heap.size rfl (.tmp 30) (.tmp 32) 35 3 (.int .i64 0) 8 rfl Try.underlying35 info3 rfl (by decide) (by omega) u5 x5_1 x7_2 [.int .i64 x7_2] (fun _ => True) (fun _ => False) rfl rfl ?aP (fun _ hk => hk.elim) ?aF ?aO ?aB ?aS ?aL ?_; (case aP => exact rfl); (case aB => exact (by repeat (first | (with_reducible first | exact HB.out | apply below_alloc | apply pw_below_drewN | apply below_drew1) | exact HB.out))); (case aF => exact (fun _ _ => trivial)); (case aO => exact (by (with_reducible repeat (first | apply Kd.R_alloc | apply Kd.R_drewN | apply Kd.R_drew)); exact HO_5.out)); (case aS => exact (below_size (by repeat (first | (with_reducible first | exact HB.out | apply below_alloc | apply pw_below_drewN | apply below_drew1) | exact HB.out)))); (case aL => have := LMc13.out; omega); intro v124 w15 ho hb hg hat; rw [← Ny123.out] at ho; have n0_ := Aside0.mk (hb); have n1_ := Aside0.mk (ho); clear HB; clear HO_5; have HB := n0_; have HO125 := n1_; clear n0_ n1_; clear ho hb hg hat))
                      go_roundg k2
                      case measure => have := HK1.out; have := HK2.out; omega
                      case rel => exact ⟨(y123), (wrap64 (x6_1 + 1)), (by first | rfl | (simp; done) | (simp [*]; done)), H', ⟨by have := HK1.out; have := HK2.out; omega⟩, ⟨by (with_reducible repeat (first | apply Kd.R_alloc | apply Kd.R_drewN | apply Kd.R_drew)); exact HO125.out⟩, ⟨by repeat (first | (with_reducible first | exact HB.out | apply below_alloc | apply pw_below_drewN | apply below_drew1) | exact HB.out)⟩⟩
                    · rw [if_neg c13] at H
                      exact absurd H (by simp)
                · rw [if_neg c9] at H
                  exact absurd H (by simp)
              · rw [if_neg c8] at H
                exact absurd H (by simp)
            · rw [if_neg c7] at H
              exact absurd H (by simp)
      · rw [if_neg c5] at H
        have c5b0 : decide (x6_1 < (l1.length : Int)) = false := decide_eq_false c5
        clear c5
        obtain rfl := Option.some.inj H
        go_wp2
        go_ret
        exact ⟨_, by first | rfl | (simp [errW_none, errW_some] <;> rfl) | (simp [*, errW_none, errW_some] <;> rfl), by (with_reducible repeat (first | apply Kd.R_alloc | apply Kd.R_drewN | apply Kd.R_drew)); exact HO_5.out, by repeat (first | (with_reducible first | exact HB.out | apply below_alloc | apply pw_below_drewN | apply below_drew1) | exact HB.out)⟩

end Go.Proofs.Ytbakoigejihnaaa.Ref

/- What the reference functions compute, said of the words alone: Ends, and the scan of Longest. -/
set_option linter.unusedSectionVars false
set_option linter.unusedVariables false
namespace Go.Proofs.Ytbakoigejihnaaa.Ref
open Go.RowKit Go.Proofs.YtbakoigejihnaaaW.PrintWords Go.Proofs.YtbakoigejihnaaaW.PrintLast Go.Proofs.YtbakoigejihnaaaW.PrintMore
open Sam (EndsAt Run countS firstS longS endsS nRuns pick bestS)

theorem longS_le {W P : List ByteArray} : ∀ n, longS W P n ≤ n
  | 0 => Nat.le_refl _
  | n + 1 => by
    simp only [longS]
    split
    · exact Nat.le_refl _
    · have := longS_le (W := W) (P := P) n; omega

section
variable {T L : List S41}

theorem ends_inner (hT : T.length ≤ 100000) (hL : L.length ≤ 100000) (i : Nat) (hi : i < L.length) (out : List Int) (hout : out.length = i) (r : List Int) :
    ∀ n, n ≤ i + 1 → Ev (fun k => licitref27_Ends.l0 k T L (out ++ [((longS (txt T) ((txt L).take (i + 1)) n : Nat) : Int)]) ((i + 1 : Nat) : Int)) r → Ev (fun k => licitref27_Ends.l1 k T L out (i : Nat) (n : Nat)) r
  | n, hn, hnext => by
    have e1 : wrap64 ((i : Int) + 1) = ((i + 1 : Nat) : Int) := by rw [w64 (by omega) (by omega)]; omega
    have e2 : wrap64 (((i + 1 : Nat) : Int) - (n : Int)) = ((i + 1 - n : Nat) : Int) := by rw [w64 (by omega) (by omega)]; omega
    have hf := first_ev (T := T) (L := (L.take (i + 1)).drop (i + 1 - n)) hT (by simp; omega)
    rw [txt_drop, txt_take] at hf
    have hl : ((txt L).take (i + 1)).length = i + 1 := by rw [List.length_take, txt_length]; omega
    refine Ev.step ?_
    simp only [licitref27_Ends.l1, e1, e2, Int.toNat_natCast]
    refine Ev.congr (g := fun k => (licitref27_First.f k T ((L.take (i + 1)).drop (i + 1 - n))).bind fun t122 => (if t122 < 0 then (licitref27_Ends.l1 k T L out (i : Nat) (wrap64 ((n : Int) - 1))) else (if out.length < 17592186044416 then (licitref27_Ends.l0 k T L (out ++ [(n : Int)]) ((i + 1 : Nat) : Int)) else (none)))) ?_ (fun k => by rw [if_pos (by omega), if_pos (by omega), if_pos (by omega)])
    refine Ev.bind hf ?_
    by_cases hr : firstS (txt T) (((txt L).take (i + 1)).drop (i + 1 - n)) < 0
    · have hnr := Sam.firstS_neg.1 hr
      cases n with
      | zero =>
        refine (hnr ?_).elim
        rw [Nat.sub_zero, List.drop_of_length_le (by omega)]
        exact Sam.run_nil _
      | succ n =>
        have e3 : wrap64 (((n + 1 : Nat) : Int) - 1) = (n : Int) := by rw [w64 (by omega) (by omega)]; omega
        have hs : longS (txt T) ((txt L).take (i + 1)) (n + 1) = longS (txt T) ((txt L).take (i + 1)) n := by
          simp only [longS]; rw [hl, if_neg hnr]
        rw [hs] at hnext
        have ih := ends_inner hT hL i hi out hout r n (by omega) hnext
        exact ih.congr fun k => by rw [if_pos hr, e3]
    · have hrun : Run (txt T) (((txt L).take (i + 1)).drop (i + 1 - n)) := by
        by_cases g : Run (txt T) (((txt L).take (i + 1)).drop (i + 1 - n))
        · exact g
        · exact (hr (Sam.firstS_neg.2 g)).elim
      have hs : longS (txt T) ((txt L).take (i + 1)) n = n := by
        cases n with
        | zero => rfl
        | succ n => simp only [longS]; rw [hl, if_pos hrun]
      rw [hs] at hnext
      exact hnext.congr fun k => by rw [if_neg hr, if_pos (by omega)]

theorem ends_outer (hT : T.length ≤ 100000) (hL : L.length ≤ 100000) : ∀ (m i : Nat), i + m = L.length → Ev (fun k => licitref27_Ends.l0 k T L (((endsS (txt T) (txt L)).map fun x => ((x : Nat) : Int)).take i) (i : Nat)) ((endsS (txt T) (txt L)).map fun x => ((x : Nat) : Int))
  | 0, i, hi => by
    have hl : ((endsS (txt T) (txt L)).map fun x => ((x : Nat) : Int)).length = L.length := by simp [endsS, txt_length]
    refine Ev.step ((Ev.const _).congr fun k => ?_)
    simp only [licitref27_Ends.l0]
    rw [if_neg (by omega), List.take_of_length_le (by omega)]
  | m + 1, i, hi => by
    have hl : ((endsS (txt T) (txt L)).map fun x => ((x : Nat) : Int)).length = L.length := by simp [endsS, txt_length]
    have e1 : wrap64 ((i : Int) + 1) = ((i + 1 : Nat) : Int) := by rw [w64 (by omega) (by omega)]; omega
    have ih := ends_outer hT hL m (i + 1) (by omega)
    refine Ev.step ?_
    simp only [licitref27_Ends.l0, e1]
    refine Ev.congr (g := fun k => licitref27_Ends.l1 k T L (((endsS (txt T) (txt L)).map fun x => ((x : Nat) : Int)).take i) (i : Nat) ((i + 1 : Nat) : Int)) ?_ (fun k => if_pos (by omega))
    refine ends_inner hT hL i (by omega) _ (by rw [List.length_take]; omega) _ (i + 1) (Nat.le_refl _) ?_
    rw [List.take_succ_eq_append_getElem (by omega)] at ih
    have : ((endsS (txt T) (txt L)).map fun x => ((x : Nat) : Int))[i]'(by omega) = ((longS (txt T) ((txt L).take (i + 1)) (i + 1) : Nat) : Int) := by simp [endsS]
    rw [this] at ih
    exact ih

theorem ends_ev (hT : T.length ≤ 100000) (hL : L.length ≤ 100000) : Ev (fun k => licitref27_Ends.f k T L) ((endsS (txt T) (txt L)).map fun x => ((x : Nat) : Int)) :=
  ends_outer hT hL L.length 0 (by omega)
end

/-! the scan -/
def valAt (W L : List ByteArray) (m : Nat) : Nat × Int × Int :=
  let d := (endsS W L).getD m 0
  if d = 0 then (0, 0, 0) else (d, firstS W ((L.take (m + 1)).drop (m + 1 - d)), (m : Int) + 1 - d)

theorem valAt_len (W L : List ByteArray) (m : Nat) : (valAt W L m).1 = (endsS W L).getD m 0 := by
  unfold valAt
  simp only
  split
  · rename_i h; rw [h]
  · rfl

theorem ends_drop (W L : List ByteArray) {i : Nat} (hi : i < L.length) : (endsS W L).drop i = (endsS W L).getD i 0 :: (endsS W L).drop (i + 1) := by
  have hl : i < (endsS W L).length := by simpa [endsS] using hi
  rw [List.drop_eq_getElem_cons hl]
  simp [List.getD, hl]

theorem ends_getD_le (W L : List ByteArray) (i : Nat) : (endsS W L).getD i 0 ≤ i + 1 := by
  unfold endsS
  rw [List.getD_eq_getElem?_getD, List.getElem?_map]
  by_cases hi : i < L.length
  · rw [List.getElem?_range hi]; exact longS_le _
  · rw [List.getElem?_eq_none (by simpa using hi)]; simp

theorem pick_new (W L : List ByteArray) {i : Nat} (hi : i < L.length) (x : Nat × Int × Int) (h : x.1 < (endsS W L).getD i 0 ∨ (x = (0, 0, 0) ∧ (endsS W L).getD i 0 = 0)) :
    pick W L ((endsS W L).drop i) i x = pick W L ((endsS W L).drop (i + 1)) (i + 1) (valAt W L i) := by
  rw [ends_drop W L hi]
  simp only [pick]
  congr 1
  rcases h with h | ⟨h1, h2⟩
  · rw [if_pos h]; unfold valAt; simp only; rw [if_neg (by omega)]
  · rw [h1, h2]; unfold valAt; simp only; rw [h2]; simp
theorem pick_old (W L : List ByteArray) {i : Nat} (hi : i < L.length) (x : Nat × Int × Int) (h : ¬ x.1 < (endsS W L).getD i 0) :
    pick W L ((endsS W L).drop i) i x = pick W L ((endsS W L).drop (i + 1)) (i + 1) x := by
  rw [ends_drop W L hi]
  simp only [pick]
  rw [if_neg h]
end Go.Proofs.Ytbakoigejihnaaa.Ref

/- The law AutomatonAsks, walked. -/
set_option linter.unusedSectionVars false
set_option linter.unusedSimpArgs false
set_option linter.unusedVariables false
namespace Go.Proofs.Ytbakoigejihnaaa.Law
open Go.RowKit Go.AutoMap Go.Proofs.YtbakoigejihnaaaW.PrintWords Go.Proofs.YtbakoigejihnaaaW.PrintLast Go.Proofs.YtbakoigejihnaaaW.PrintMore
open Sam (Auto Inv countS firstS nRuns endsS bestS Run)
open Ref (S41 k41 txt)
open Wk (Built)

noncomputable def few24 (l : List S41) : Bool := Classical.choose (Ref.few24_ev l)
theorem few24_len {l : List S41} (h : few24 l = true) : l.length ≤ 40 := (Classical.choose_spec (Ref.few24_ev l)).1 h

section
variable (w : World) (A0 A1 : Option Addr) (c0 c1 : Nat) (T L : List S41) (h0 : Kd.C k41 w A0 T.length T) (hc0 : T.length ≤ c0)
include h0 hc0
theorem few24_calls : Calls Try.prog 17 #[.slice A0 T.length c0] w fun e w' => e = .returned (.bool (few24 T)) ∧ Drawn0 w w' := by
  obtain ⟨k, hk⟩ := (Classical.choose_spec (Ref.few24_ev T)).2.get
  exact Ref.licitref24_Few.calls k A0 c0 T _ w h0 hc0 hk
variable (h1 : Kd.C k41 w A1 L.length L) (hc1 : L.length ≤ c1) (hT : T.length ≤ 100000) (hL : L.length ≤ 100000)
include h1 hc1 hT hL
theorem ref_first : Calls Try.prog 24 #[.slice A0 T.length c0, .slice A1 L.length c1] w fun e w' => e = .returned (.int .i64 (firstS (txt T) (txt L))) ∧ Drawn0 w w' := by
  obtain ⟨k, hk⟩ := (Ref.first_ev (T := T) (L := L) hT hL).get
  exact Ref.licitref27_First.calls k A0 c0 T A1 c1 L _ w h0 hc0 h1 hc1 hk
theorem ref_count : Calls Try.prog 26 #[.slice A0 T.length c0, .slice A1 L.length c1] w fun e w' => e = .returned (.int .i64 ((countS (txt T) (txt L) : Nat) : Int)) ∧ Drawn0 w w' := by
  obtain ⟨k, hk⟩ := (Ref.count_ev (T := T) (L := L) hT hL).get
  exact Ref.licitref27_Count.calls k A0 c0 T A1 c1 L _ w h0 hc0 h1 hc1 hk
end

theorem run_first (W L : List ByteArray) : (decide (Run W L) == decide (0 ≤ firstS W L)) = true := by
  by_cases h : Run W L
  · have : ¬ firstS W L < 0 := fun k => Sam.firstS_neg.1 k h
    simp [h]; omega
  · have := Sam.firstS_neg.2 h
    simp [h]; omega

set_option maxHeartbeats 4000000 in
set_option maxRecDepth 100000 in
theorem asks_walk (w : World) (A0 A1 : Option Addr) (c0 c1 : Nat) (T L : List S41) (h0 : Kd.C k41 w A0 T.length T) (hc0 : T.length ≤ c0) (h1 : Kd.C k41 w A1 L.length L) (hc1 : L.length ≤ c1) : Calls Try.prog 5 #[.slice A0 T.length c0, .slice A1 L.length c1] w (Yes w) := by
  have HC0 := Aside0.mk h0
  have HC1 := Aside0.mk h1
  clear h0 h1
  have F0 := Aside0.mk (@few24_len T)
  have F1 := Aside0.mk (@few24_len L)
  go_enter Try.func5, Try.ntmps5
  go_wp2_with (go_at_call 10; refine (awake _).mono ?_; rintro e w1 ⟨rfl, hb1⟩)
  have HB1 := Aside0.mk hb1
  clear hb1
  have HF := Aside0.mk (few24_calls w1 A0 c0 T (Kd.C_below HC0.out HB1.out) hc0)
  generalize few24 T = b0 at HF F0
  cases b0 with
  | false =>
    go_wp2_with (go_at_call 17; with_reducible refine HF.out.mono ?_; rintro e w2 ⟨rfl, hd⟩)
    go_ret
    exact ⟨rfl, drawn0_below HB1.out hd⟩
  | true =>
    have hT := F0.out rfl
    go_wp2_with (go_at_call 17; with_reducible refine HF.out.mono ?_; rintro e w2 ⟨rfl, hd⟩)
    have HB2 : Aside0 (Below w.heap.size w w2) := ⟨drawn0_below HB1.out hd⟩
    clear hd HF HB1 F0
    have HF := Aside0.mk (few24_calls w2 A1 c1 L (Kd.C_below HC1.out HB2.out) hc1)
    generalize few24 L = b1 at HF F1
    cases b1 with
    | false =>
      refine HF.out.mono ?_
      rintro e w3 ⟨rfl, hd⟩
      go_wp2_with fail
      go_ret
      exact ⟨rfl, drawn0_below HB2.out hd⟩
    | true =>
      have hL := F1.out rfl
      refine HF.out.mono ?_
      rintro e w3 ⟨rfl, hd⟩
      have HB3 : Aside0 (Below w.heap.size w w3) := ⟨drawn0_below HB2.out hd⟩
      clear hd HF HB2 F1
      go_wp2_with fail
      refine (build A0 c0 T (Kd.C_below HC0.out HB3.out) (by omega)).mono ?_
      rintro e w4 ⟨ba, A, rfl, hm, hbt, hb4⟩
      have HM := Aside0.mk hm
      have HBt := Aside0.mk hbt
      have HB4 : Aside0 (Below w.heap.size w w4) := ⟨HB3.out.trans (hb4.mono HB3.out.size)⟩
      have hW : (txt T).length ≤ 8192 := by rw [Ref.txt_length]; omega
      clear hm hbt hb4
      go_wp2_with fail
      refine (has A1 c1 L (Kd.C_below HC1.out HB4.out) (by omega) HM.out HBt.out).mono ?_
      rintro e w5 ⟨rfl, hb5⟩
      have HM5 : Aside0 (AutoMem 53 56 w5 w3.heap.size ba A) := ⟨HM.out.below hb5⟩
      have HB5 : Aside0 (Below w.heap.size w w5) := ⟨HB4.out.trans (hb5.mono HB4.out.size)⟩
      clear hb5 HM HB4
      have HRF := fun w' (hb : Below w.heap.size w w') => ref_first w' A0 A1 c0 c1 T L (Kd.C_below HC0.out hb) hc0 (Kd.C_below HC1.out hb) hc1 (by omega) (by omega)
      have HRF := Aside0.mk HRF
      have HEq := run_first (txt T) (txt L)
      go_wp2_with (go_at_call 24; with_reducible refine (HRF.out _ HB5.out).mono ?_; rintro e w6 ⟨rfl, hd⟩)
      have HM6 : Aside0 (AutoMem 53 56 w6 w3.heap.size ba A) := by obtain ⟨q, rfl⟩ := hd; exact ⟨HM5.out.below (bdrew (Below.refl _ _) q)⟩
      have HB6 : Aside0 (Below w.heap.size w w6) := ⟨drawn0_below HB5.out hd⟩
      clear hd HM5 HB5
      refine (count A1 c1 L (Kd.C_below HC1.out HB6.out) (by omega) HM6.out HBt.out).mono ?_
      rintro e w7 ⟨rfl, hb7⟩
      have HM7 : Aside0 (AutoMem 53 56 w7 w3.heap.size ba A) := ⟨HM6.out.below hb7⟩
      have HB7 : Aside0 (Below w.heap.size w w7) := ⟨HB6.out.trans (hb7.mono HB6.out.size)⟩
      clear hb7 HM6 HB6
      have HRC := Aside0.mk (ref_count w7 A0 A1 c0 c1 T L (Kd.C_below HC0.out HB7.out) hc0 (Kd.C_below HC1.out HB7.out) hc1 (by omega) (by omega))
      go_wp2_with (go_at_call 26; with_reducible refine HRC.out.mono ?_; rintro e w8 ⟨rfl, hd⟩)
      have HM8 : Aside0 (AutoMem 53 56 w8 w3.heap.size ba A) := by obtain ⟨q, rfl⟩ := hd; exact ⟨HM7.out.below (bdrew (Below.refl _ _) q)⟩
      have HB8 : Aside0 (Below w.heap.size w w8) := ⟨drawn0_below HB7.out hd⟩
      clear hd HM7 HB7 HRC
      refine (first A1 c1 L (Kd.C_below HC1.out HB8.out) (by omega) HM8.out HBt.out hW).mono ?_
      rintro e w9 ⟨rfl, hb9⟩
      have HB9 : Aside0 (Below w.heap.size w w9) := ⟨HB8.out.trans (hb9.mono HB8.out.size)⟩
      clear hb9 HM8 HB8
      go_wp2_with (go_at_call 24; with_reducible refine (HRF.out _ HB9.out).mono ?_; rintro e w10 ⟨rfl, hd⟩)
      go_ret
      exact ⟨by simp, drawn0_below HB9.out hd⟩
end Go.Proofs.Ytbakoigejihnaaa.Law

/- The reference function Longest, walked. -/
set_option linter.unusedSectionVars false
set_option linter.unusedSimpArgs false
set_option linter.unusedVariables false
namespace Go.Proofs.Ytbakoigejihnaaa.Law
open Go.RowKit Go.AutoMap Go.Proofs.YtbakoigejihnaaaW.PrintWords Go.Proofs.YtbakoigejihnaaaW.PrintLast Go.Proofs.YtbakoigejihnaaaW.PrintMore
open Sam (Auto Inv countS firstS nRuns endsS bestS Run pick)
open Ref (S41 k41 txt valAt)

theorem ref_Rint {w : World} {base : Nat} {ok : Nat → Prop} {v : Value} {l : List Int} (h : Kd.R (Kd.int .i64) 3 w base ok v l) : ∃ A1 c1, v = .slice A1 l.length c1 ∧ l.length ≤ c1 ∧ Kd.C (Kd.int .i64) w A1 l.length l := by
  obtain ⟨A1, c, h1, hle, h2⟩ := h.2.reads
  exact ⟨A1, c, h1, hle, h2.imp_ (Below.refl _ _) (fun p c hc => (Kd.int .i64).K_of_M hc)⟩

theorem ref_ends (w : World) (A0 A1 : Option Addr) (c0 c1 : Nat) (T L : List S41) (h0 : Kd.C k41 w A0 T.length T) (hc0 : T.length ≤ c0) (h1 : Kd.C k41 w A1 L.length L) (hc1 : L.length ≤ c1) (hT : T.length ≤ 100000) (hL : L.length ≤ 100000) :
    Calls Try.prog 22 #[.slice A0 T.length c0, .slice A1 L.length c1] w fun e w' => ∃ A2 c2, e = .returned (.slice A2 L.length c2) ∧ L.length ≤ c2 ∧ Kd.C (Kd.int .i64) w' A2 L.length ((endsS (txt T) (txt L)).map fun x => ((x : Nat) : Int)) ∧ Below w.heap.size w w' := by
  obtain ⟨k, hk⟩ := (Ref.ends_ev (T := T) (L := L) hT hL).get
  refine (Ref.licitref27_Ends.calls k A0 c0 T A1 c1 L _ w h0 hc0 h1 hc1 hk).mono ?_
  rintro e w' ⟨v, rfl, hv, hb⟩
  obtain ⟨A2, c2, rfl, hle, hC⟩ := ref_Rint hv
  have hl : ((endsS (txt T) (txt L)).map fun x => ((x : Nat) : Int)).length = L.length := by simp [endsS, Ref.txt_length]
  rw [hl] at hle hC
  exact ⟨A2, c2, by rw [hl], hle, hC, hb⟩

theorem rd_map (E : List Nat) (i : Nat) : rd (E.map fun x => ((x : Nat) : Int)) (i : Nat) = ((E.getD i 0 : Nat) : Int) := by
  unfold rd
  rw [Int.toNat_natCast, List.getD_eq_getElem?_getD, List.getD_eq_getElem?_getD, List.getElem?_map]
  cases E[i]? <;> simp

theorem cut_words (A1 : Option Addr) (c1 : Nat) (L : List S41) (hc1 : L.length ≤ c1) (lo hi : Int) (a b : Nat) (ha : lo = (a : Nat)) (hb : hi = (b : Nat)) (h1 : a ≤ b) (h2 : b ≤ L.length) :
    ∃ A' c' y, y = (L.take b).drop a ∧ (∀ W : World, (Instr.slice 22 (.slice A1 L.length c1) (some (.int .i64 lo)) (some (.int .i64 hi)) none).run Try.prog W = .ok (.slice A' y.length c') W) ∧ y.length ≤ c' ∧ ∀ W, Kd.C k41 W A1 L.length L → Kd.C k41 W A' y.length y := by
  subst ha hb
  obtain ⟨i0, hi0, _, hsz, _⟩ := info_parts Ref.info41
  have hcut := cut_mid (P := Try.prog) 22 41 .i64 .i64 Try.underlying22 hi0 2 hsz A1 L.length c1 (a : Nat) (b : Nat) (by omega) (by omega) (by omega) hc1
  simp only [Int.toNat_natCast] at hcut
  have hl : ((L.take b).drop a).length = b - a := by simp; omega
  refine ⟨(if c1 = a then A1 else A1.map (·.add (a * 2))), c1 - a, (L.take b).drop a, rfl, fun W => ?_, by omega, fun W hC => Kd.C_mid hC h1 h2 hc1⟩
  rw [hcut W, hl]

set_option maxHeartbeats 4000000 in
set_option maxRecDepth 100000 in
theorem ref_longest (w : World) (A0 A1 : Option Addr) (c0 c1 : Nat) (T L : List S41) (h0 : Kd.C k41 w A0 T.length T) (hc0 : T.length ≤ c0) (h1 : Kd.C k41 w A1 L.length L) (hc1 : L.length ≤ c1) (hT : T.length ≤ 100000) (hL : L.length ≤ 100000) :
    Calls Try.prog 19 #[.slice A0 T.length c0, .slice A1 L.length c1] w fun e w' => e = .returned (.tuple #[.int .i64 (bestS (txt T) (txt L)).2.1, .int .i64 (bestS (txt T) (txt L)).2.2, .int .i64 ((bestS (txt T) (txt L)).1 : Nat)]) ∧ Below w.heap.size w w' := by
  have HC0 := Aside0.mk h0
  have HC1 := Aside0.mk h1
  have HE := Aside0.mk (ref_ends w A0 A1 c0 c1 T L h0 hc0 h1 hc1 hT hL)
  have HLE := Aside0.mk (Ref.ends_getD_le (txt T) (txt L))
  clear h0 h1
  go_enter Try.func19, Try.ntmps19
  go_wp2_with (go_at_call 22; refine HE.out.mono ?_; rintro e w1 ⟨A2, c2, rfl, hc2, hC2, hb1⟩)
  have HC2 := Aside0.mk hC2
  have HB1 := Aside0.mk hb1
  clear hC2 hb1 HE
  go_loopg [8, 9] L.length (fun kq v8 v9 w' => ∃ (b : Int) (i m : Nat), v8 = .int .i64 b ∧ v9 = .int .i64 i ∧ w' = w1.drewN m ∧ Aside0 (i + kq = L.length) ∧ Aside0 ((b = -1 ∧ i = 0 ∧ bestS (txt T) (txt L) = pick (txt T) (txt L) ((endsS (txt T) (txt L)).drop i) i (0, 0, 0)) ∨ ∃ p : Nat, b = p ∧ p < i ∧ bestS (txt T) (txt L) = pick (txt T) (txt L) ((endsS (txt T) (txt L)).drop i) i (valAt (txt T) (txt L) p)))
  case atStart => exact ⟨-1, 0, 0, rfl, rfl, rfl, ⟨by omega⟩, ⟨.inl ⟨rfl, rfl, rfl⟩⟩⟩
  case round =>
    obtain ⟨b, i, m, rfl, rfl, rfl, HK, HP⟩ := hrel
    by_cases hi : i < L.length
    · have hib : decide ((i : Int) < (L.length : Int)) = true := by simpa using hi
      obtain ⟨adi, e1, hx1⟩ := Kd.at_int HC2.out (i : Int) (by omega) (by omega)
      subst e1
      rw [rd_map, Int.toNat_natCast] at hx1
      rcases HP.out with ⟨rfl, rfl, hbst⟩ | ⟨p, rfl, hp, hbst⟩
      · have HBs := Aside0.mk hbst
        clear hbst HP
        go_wp2_with fail
        go_quiet (fail)
        go_wp2_with fail
        go_roundg (gk - 1)
        case measure => have := HK.out; omega
        case rel => exact ⟨0, 1, m + nq, rfl, rfl, rfl, ⟨by have := HK.out; omega⟩, ⟨.inr ⟨0, rfl, by omega, by rw [HBs.out]; exact Ref.pick_new _ _ (by rw [Ref.txt_length]; exact hi) _ (by
          rcases Nat.eq_zero_or_pos ((endsS (txt T) (txt L)).getD 0 0) with g | g
          · exact .inr ⟨rfl, g⟩
          · exact .inl g)⟩⟩⟩
      · have HBs := Aside0.mk hbst
        clear hbst HP
        obtain ⟨adp, e2, hx2⟩ := Kd.at_int HC2.out (p : Int) (by omega) (by omega)
        injection e2 with e2
        subst e2
        rw [rd_map, Int.toNat_natCast] at hx2
        have hle1 := HLE.out i
        have hle2 := HLE.out p
        have hp0 : decide ((p : Int) < 0) = false := by simp
        have hpL : p < L.length := by omega
        have hpb : decide ((p : Int) < (L.length : Int)) = true := by simpa using hpL
        have HVp : Aside0 ((valAt (txt T) (txt L) p).1 = (endsS (txt T) (txt L)).getD p 0) := ⟨Ref.valAt_len _ _ _⟩
        have HNew : Aside0 ((endsS (txt T) (txt L)).getD p 0 < (endsS (txt T) (txt L)).getD i 0 → pick (txt T) (txt L) ((endsS (txt T) (txt L)).drop i) i (valAt (txt T) (txt L) p) = pick (txt T) (txt L) ((endsS (txt T) (txt L)).drop (i + 1)) (i + 1) (valAt (txt T) (txt L) i)) := ⟨fun hg => Ref.pick_new _ _ (by rw [Ref.txt_length]; exact hi) _ (.inl (by rw [Ref.valAt_len]; exact hg))⟩
        have HOld : Aside0 (¬ (endsS (txt T) (txt L)).getD p 0 < (endsS (txt T) (txt L)).getD i 0 → pick (txt T) (txt L) ((endsS (txt T) (txt L)).drop i) i (valAt (txt T) (txt L) p) = pick (txt T) (txt L) ((endsS (txt T) (txt L)).drop (i + 1)) (i + 1) (valAt (txt T) (txt L) p)) := ⟨fun hg => Ref.pick_old _ _ (by rw [Ref.txt_length]; exact hi) _ (by rw [Ref.valAt_len]; exact hg)⟩
        generalize (endsS (txt T) (txt L)).getD p 0 = dp at hx2 hle2 HVp HNew HOld
        generalize (endsS (txt T) (txt L)).getD i 0 = di at hx1 hle1 HNew HOld
        by_cases hgt : dp < di
        · have hg1 : decide ((dp : Int) < (di : Int)) = true := by simpa using hgt
          have hg2 : decide (dp < di) = true := by simpa using hgt
          have HG := Aside0.mk hgt
          clear hgt hle1 hle2
          go_wp2_with fail
          go_quiet (fail)
          go_wp2_with fail
          go_roundg (gk - 1)
          case measure => have := HK.out; omega
          case rel => exact ⟨i, i + 1, m + nq, rfl, by go_num, rfl, ⟨by have := HK.out; omega⟩, ⟨.inr ⟨i, rfl, by omega, by rw [HBs.out]; exact HNew.out HG.out⟩⟩⟩
        · have hg1 : decide ((dp : Int) < (di : Int)) = false := by simpa using hgt
          have hg2 : decide (dp < di) = false := by simpa using hgt
          have HG := Aside0.mk hgt
          clear hgt hle1 hle2
          go_wp2_with fail
          go_quiet (fail)
          go_wp2_with fail
          go_roundg (gk - 1)
          case measure => have := HK.out; omega
          case rel => exact ⟨p, i + 1, m + nq, rfl, by go_num, rfl, ⟨by have := HK.out; omega⟩, ⟨.inr ⟨p, rfl, by omega, by rw [HBs.out]; exact HOld.out HG.out⟩⟩⟩
    · have hib : decide ((i : Int) < (L.length : Int)) = false := by simpa using hi
      have him : (endsS (txt T) (txt L)).drop i = [] := by
        apply List.drop_of_length_le
        simp [endsS, Ref.txt_length]; omega
      rw [him] at HP
      simp only [pick] at HP
      rcases HP.out with ⟨rfl, rfl, hbst⟩ | ⟨p, rfl, hp, hbst⟩
      · have HBs := Aside0.mk hbst
        clear hbst HP
        go_wp2_with fail
        go_ret3
        exact ⟨by rw [HBs.out]; rfl, bdrew HB1.out _⟩
      · have HBs := Aside0.mk hbst
        clear hbst HP
        have hpL : p < L.length := by have := HK.out; omega
        obtain ⟨adp, e2, hx2⟩ := Kd.at_int HC2.out (p : Int) (by omega) (by omega)
        subst e2
        rw [rd_map, Int.toNat_natCast] at hx2
        have hle2 := HLE.out p
        have HV : Aside0 (valAt (txt T) (txt L) p = if (endsS (txt T) (txt L)).getD p 0 = 0 then (0, 0, 0) else ((endsS (txt T) (txt L)).getD p 0, firstS (txt T) (((txt L).take (p + 1)).drop (p + 1 - (endsS (txt T) (txt L)).getD p 0)), (p : Int) + 1 - (endsS (txt T) (txt L)).getD p 0)) := ⟨rfl⟩
        generalize (endsS (txt T) (txt L)).getD p 0 = d at hx2 hle2 HV
        by_cases hd0 : d = 0
        · subst hd0
          go_wp2_with fail
          go_ret3
          exact ⟨by rw [HBs.out, HV.out]; rfl, bdrew HB1.out _⟩
        · have hdb : ((d : Int) == 0) = false := by simpa using hd0
          rw [if_neg hd0] at HV
          have hb1 : Below w.heap.size w (w1.drewN m) := bdrew HB1.out m
          have HBm := Aside0.mk hb1
          clear hb1
          obtain ⟨A4, c4, y, hy, hcut, hyc, hyC⟩ := cut_words A1 c1 L hc1 ((p : Int) + 1 - (d : Int)) ((p : Int) + 1) (p + 1 - d) (p + 1) (by omega) (by omega) (by omega) (by omega)
          have HY := Aside0.mk hy
          have HYC := Aside0.mk hyC
          have hyl : y.length ≤ 100000 := by rw [hy]; simp; omega
          have HRF := Aside0.mk (fun W (hb : Below w.heap.size w W) => ref_first W A0 A4 c0 c4 T y (Kd.C_below HC0.out hb) hc0 (HYC.out W (Kd.C_below HC1.out hb)) hyc hT hyl)
          clear hy hyC
          go_wp2_with fail
          go_quiet ((go_at_call 24; refine (HRF.out _ ?side).mono ?_; (case side => first | exact HBm.out | exact bdrew HBm.out _ | exact bdrew (bdrew HBm.out _) _ | exact bdrew HB1.out _); rintro e w' ⟨rfl, ⟨nd, rfl⟩⟩; first | exact ⟨rfl, _, World.drewN_drewN _ _ _⟩ | exact ⟨rfl, _, Eq.trans (World.drewN_drewN _ _ _) (congrArg (World.drewN _) (Nat.add_assoc _ _ _))⟩))
          go_wp2_with fail
          go_ret3
          refine ⟨?_, bdrew HBm.out _⟩
          rw [HBs.out, HV.out, HY.out, Ref.txt_drop, Ref.txt_take]
          rfl
end Go.Proofs.Ytbakoigejihnaaa.Law

/- Plain facts for the laws without the reference: counts of runs that are made longer, words that are not in the text. -/
set_option linter.unusedSectionVars false
set_option linter.unusedVariables false
namespace Sam
section
variable {α : Type} [DecidableEq α]
theorem countS_suffix {T L L' : List α} (h : L <:+ L') : countS T L' ≤ countS T L := by
  unfold countS
  apply List.countP_mono_left
  intro e _ he
  simp only [decide_eq_true_eq] at he ⊢
  exact he.mono h
theorem countS_snoc (T R : List α) (c : α) : countS T (R ++ [c]) ≤ countS T R := by
  have h1 : countS T (R ++ [c]) ≤ (List.range T.length).countP fun e => decide (EndsAt T R e) := by
    unfold countS
    rw [List.range_succ_eq_map, List.countP_cons, List.countP_map]
    rw [if_neg (by simpa using endsAt_snoc_zero)]
    apply List.countP_mono_left
    intro e _ he
    simp only [Function.comp, decide_eq_true_eq] at he ⊢
    exact (endsAt_snoc.1 he).1
  refine Nat.le_trans h1 ?_
  unfold countS
  rw [List.range_succ, List.countP_append]
  omega
theorem countS_nil (T : List α) : countS T [] = T.length + 1 := by
  unfold countS
  rw [List.countP_eq_length.2]
  · simp
  · intro e he
    simp only [List.mem_range] at he
    simpa [endsAt_nil] using (by omega : e ≤ T.length)
theorem firstS_nil (T : List α) : firstS T [] = 0 := by
  rw [firstS_of (e := 0) ((endsAt_nil T 0).2 (Nat.zero_le _)) (fun e' _ => Nat.zero_le _)]; rfl
theorem Run.last_mem {T R : List α} {c : α} (h : Run T (R ++ [c])) : c ∈ T := by
  obtain ⟨e, he⟩ := h
  cases e with
  | zero => exact (endsAt_snoc_zero he).elim
  | succ e => exact List.mem_of_getElem? (endsAt_snoc.1 he).2
theorem Run.count_pos {T R : List α} (h : Run T R) : 1 ≤ countS T R := by
  obtain ⟨e, he⟩ := h
  unfold countS
  have : 0 < (List.range (T.length + 1)).countP fun e => decide (EndsAt T R e) := List.countP_pos_iff.2 ⟨e, by have := he.le; simp; omega, by simpa using he⟩
  omega
theorem countS_le (T L : List α) : countS T L ≤ T.length + 1 := by
  unfold countS
  have := List.countP_le_length (l := List.range (T.length + 1)) (p := fun e => decide (EndsAt T L e))
  simpa using this
/-- a cut of the text is a run, and its first place is no later -/
theorem cut_first {T : List α} {a b : Nat} (h1 : a ≤ b) (h2 : b ≤ T.length) : Run T ((T.take b).drop a) ∧ ∃ at_ : Nat, firstS T ((T.take b).drop a) = at_ ∧ at_ ≤ a ∧ EndsAt T ((T.take b).drop a) (at_ + (b - a)) := by
  have he : EndsAt T ((T.take b).drop a) b := endsAt_cut h2
  have hl : ((T.take b).drop a).length = b - a := by simp; omega
  refine ⟨⟨b, he⟩, ?_⟩
  obtain ⟨e, g1, g2, g3⟩ := Run.first ⟨b, he⟩
  have := g1.len
  have := g2 b he
  rw [hl] at g3
  refine ⟨e - (b - a), by rw [g3]; omega, by omega, ?_⟩
  rwa [show e - (b - a) + (b - a) = e by omega]
end
end Sam
namespace Go.Proofs.Ytbakoigejihnaaa.Law
open Go.RowKit Go.Proofs.YtbakoigejihnaaaW.PrintWords Go.Proofs.YtbakoigejihnaaaW.PrintLast Go.Proofs.YtbakoigejihnaaaW.PrintMore
open Ref (S41 k41 txt)

theorem few24_loop_small {T : List S41} (hT : T.length ≤ 100000) : ∀ (j i : Nat), i + j = T.length → ∀ k, Ref.licitref24_Few.l0 k T (i : Nat) = some true → ∀ p, i ≤ p → p < T.length → (Ref.rd_T41 T (p : Nat)).f0.size ≤ 40
  | 0, i, hi => by intro k _ p hp hpl; omega
  | j + 1, i, hi => by
    intro k hk p hp hpl
    have e2 : wrap64 ((i : Int) + 1) = ((i + 1 : Nat) : Int) := by rw [Ref.w64 (by omega) (by omega)]; omega
    cases k with
    | zero => simp [Ref.licitref24_Few.l0] at hk
    | succ k =>
      simp only [Ref.licitref24_Few.l0, e2] at hk
      rw [if_pos (by omega), if_pos (by omega)] at hk
      by_cases hs : (((Ref.rd_T41 T (i : Nat)).f0).size : Int) > 40
      · rw [if_pos hs] at hk; simp at hk
      · rw [if_neg hs] at hk
        by_cases e : p = i
        · subst e; omega
        · exact few24_loop_small hT j (i + 1) (by omega) k hk p (by omega) hpl

theorem few24_small {l : List S41} (h : few24 l = true) : ∀ x, x ∈ txt l → x.size ≤ 40 := by
  have hlen := few24_len h
  obtain ⟨k, hk⟩ := (Classical.choose_spec (Ref.few24_ev l)).2.get
  have hk' : Ref.licitref24_Few.f k l = some true := by rw [hk]; exact congrArg some h
  unfold Ref.licitref24_Few.f at hk'
  rw [if_neg (by omega)] at hk'
  intro x hx
  obtain ⟨y, hy, rfl⟩ := List.mem_map.1 hx
  obtain ⟨p, hp, rfl⟩ := List.getElem_of_mem hy
  have := few24_loop_small (by omega) l.length 0 (by omega) k hk' p (Nat.zero_le _) hp
  have e : Ref.rd_T41 l (p : Nat) = l[p] := by unfold Ref.rd_T41; simp [List.getD, hp]
  rwa [e] at this
end Go.Proofs.Ytbakoigejihnaaa.Law

/- Plain facts: how many different runs there are; the reversed text has as many; the counts of the different words add up. -/
set_option linter.unusedSectionVars false
set_option linter.unusedVariables false
namespace Sam
section
variable {α : Type} [DecidableEq α]

theorem run_infix {T r : List α} : Run T r ↔ r <:+: T := by
  constructor
  · rintro ⟨e, h1, h2⟩
    exact h2.isInfix.trans (List.take_prefix _ _).isInfix
  · rintro ⟨s, t, h⟩
    refine ⟨(s ++ r).length, by rw [← h]; simp, ?_⟩
    rw [← h, List.take_append_of_le_length (Nat.le_refl _), List.take_length]
    exact List.suffix_append _ _

theorem run_reverse {T r : List α} : Run T.reverse r ↔ Run T r.reverse := by
  rw [run_infix, run_infix, ← List.reverse_infix, List.reverse_reverse]

theorem nRuns_reverse (T : List α) : nRuns T.reverse = nRuns T := by
  have h : ((runsList T).map List.reverse).length = (runsList T.reverse).length := by
    refine length_eq_of_mem ?_ (nodup_runsList _) ?_
    · rw [List.Nodup, List.pairwise_map]
      exact (nodup_runsList T).imp fun hne h => hne (List.reverse_inj.1 h)
    · intro x
      rw [mem_runsList, List.mem_map]
      constructor
      · rintro ⟨y, hy, rfl⟩
        rw [mem_runsList] at hy
        exact ⟨fun h => hy.1 (List.reverse_eq_nil_iff.1 h), by rw [run_reverse, List.reverse_reverse]; exact hy.2⟩
      · rintro ⟨h1, h2⟩
        exact ⟨x.reverse, mem_runsList.2 ⟨fun h => h1 (List.reverse_eq_nil_iff.1 h), run_reverse.1 h2⟩, List.reverse_reverse _⟩
  rw [List.length_map] at h
  exact h.symm

theorem le_nRuns (T : List α) : T.length ≤ nRuns T := by
  have hnd : ((List.range T.length).map fun k => T.take (k + 1)).Nodup := by
    rw [List.Nodup, List.pairwise_map]
    refine List.Pairwise.imp_of_mem ?_ List.nodup_range
    intro a b ha hb hab h
    simp only [List.mem_range] at ha hb
    have := congrArg List.length h
    simp at this; omega
  have := hnd.length_le_of_subset (l₂ := runsList T) (by
    intro x hx
    obtain ⟨k, hk, rfl⟩ := List.mem_map.1 hx
    simp only [List.mem_range] at hk
    refine mem_runsList.2 ⟨?_, run_infix.2 (List.take_prefix _ _).isInfix⟩
    intro h
    have := congrArg List.length h
    rw [List.length_take, List.length_nil] at this
    omega)
  simpa [nRuns] using this

theorem nRuns_le (T : List α) : 2 * nRuns T ≤ T.length * (T.length + 1) := by
  have key : ∀ (m i : Nat), i + m = T.length → 2 * ((List.range' i m).flatMap fun i => ((List.range (T.length - i)).map fun j => (T.take (i + 1 + j)).drop i).filter fun r => decide (firstS T r = (i : Int))).length ≤ m * (m + 1) := by
    intro m
    induction m with
    | zero => intro i _; simp
    | succ m ih =>
      intro i hi
      rw [List.range'_succ, List.flatMap_cons, List.length_append]
      have h1 := ih (i + 1) (by omega)
      have h2 : (((List.range (T.length - i)).map fun j => (T.take (i + 1 + j)).drop i).filter fun r => decide (firstS T r = (i : Int))).length ≤ m + 1 := by
        refine Nat.le_trans (List.length_filter_le _ _) ?_
        simp; omega
      have h3 : (m + 1) * (m + 1 + 1) = m * (m + 1) + 2 * (m + 1) := by
        rw [Nat.mul_comm (m + 1) (m + 1 + 1), Nat.add_mul, Nat.add_mul, Nat.mul_comm m (m + 1), Nat.add_mul]; omega
      omega
  unfold nRuns runsList
  rw [List.range_eq_range' (n := T.length)]
  exact key T.length 0 (by omega)

/-- one word: it ends where it stands -/
theorem endsAt_one {T : List α} {c : α} {e : Nat} : EndsAt T [c] (e + 1) ↔ T[e]? = some c := by
  have := endsAt_snoc (T := T) (r := []) (c := c) (e := e)
  rw [List.nil_append] at this
  rw [this, endsAt_nil]
  constructor
  · exact fun h => h.2
  · intro h; exact ⟨by have := (List.getElem?_eq_some_iff.1 h).1; omega, h⟩
theorem countS_one (T : List α) (c : α) : countS T [c] = (List.range T.length).countP fun e => decide (T[e]? = some c) := by
  unfold countS
  rw [List.range_succ_eq_map, List.countP_cons, List.countP_map, if_neg (by simpa using (endsAt_snoc_zero (T := T) (r := []) (c := c))), Nat.add_zero]
  congr 1
  funext e
  simp only [Function.comp, Nat.succ_eq_add_one, endsAt_one]
theorem firstS_one {T : List α} {c : α} {i : Nat} (hi : T[i]? = some c) : (firstS T [c] = (i : Int)) ↔ ∀ j, j < i → T[j]? ≠ some c := by
  have hr : Run T [c] := ⟨i + 1, endsAt_one.2 hi⟩
  obtain ⟨e, h1, h2, h3⟩ := hr.first
  rw [h3]
  cases e with
  | zero => exact (endsAt_snoc_zero (r := []) h1).elim
  | succ e =>
    have he := endsAt_one.1 h1
    simp only [List.length_singleton]
    constructor
    · intro h j hj hjc
      have := h2 (j + 1) (endsAt_one.2 hjc)
      omega
    · intro h
      have h4 := h2 (i + 1) (endsAt_one.2 hi)
      rcases Nat.lt_or_ge e i with g | g
      · exact (h e g he).elim
      · omega

/-- the counts of the words, each at its first place -/
def wordSum (T : List α) : Nat → Nat
  | 0 => 0
  | i + 1 => wordSum T i + match T[i]? with
    | none => 0
    | some c => if firstS T [c] = (i : Int) then countS T [c] else 0

theorem wordSum_at (T : List α) : ∀ i, i ≤ T.length → wordSum T i = (List.range T.length).countP fun e => decide (∃ j, j < i ∧ T[j]? = T[e]?) := by
  intro i
  induction i with
  | zero =>
    intro _
    simp only [wordSum]
    refine (List.countP_eq_zero.2 ?_).symm
    intro e _ h
    simp at h
  | succ i ih =>
    intro hi
    have hlt : i < T.length := by omega
    simp only [wordSum, List.getElem?_eq_getElem hlt]
    rw [ih (by omega)]
    have hc : T[i]? = some T[i] := List.getElem?_eq_getElem hlt
    by_cases hf : firstS T [T[i]] = (i : Int)
    · rw [if_pos hf, countS_one]
      have hno := (firstS_one hc).1 hf
      have key : ∀ (R : List Nat), (R.countP fun e => decide (∃ j, j < i ∧ T[j]? = T[e]?)) + (R.countP fun e => decide (T[e]? = some T[i])) = R.countP fun e => decide (∃ j, j < i + 1 ∧ T[j]? = T[e]?) := by
        intro R
        induction R with
        | nil => rfl
        | cons e R ihR =>
          simp only [List.countP_cons, decide_eq_true_eq]
          have h1 : (∃ j, j < i + 1 ∧ T[j]? = T[e]?) ↔ (∃ j, j < i ∧ T[j]? = T[e]?) ∨ T[e]? = some T[i] := by
            constructor
            · rintro ⟨j, hj, h⟩
              by_cases ej : j = i
              · subst ej; exact .inr (by rw [← h, hc])
              · exact .inl ⟨j, by omega, h⟩
            · rintro (⟨j, hj, h⟩ | h)
              · exact ⟨j, by omega, h⟩
              · exact ⟨i, by omega, by rw [h, hc]⟩
          have h2 : ¬ ((∃ j, j < i ∧ T[j]? = T[e]?) ∧ T[e]? = some T[i]) := by
            rintro ⟨⟨j, hj, h⟩, h'⟩
            exact hno j hj (by rw [h, h'])
          by_cases a1 : ∃ j, j < i ∧ T[j]? = T[e]?
          · have a2 : ¬ T[e]? = some T[i] := fun h => h2 ⟨a1, h⟩
            rw [if_pos a1, if_neg a2, if_pos (h1.2 (.inl a1))]; omega
          · by_cases a2 : T[e]? = some T[i]
            · rw [if_neg a1, if_pos a2, if_pos (h1.2 (.inr a2))]; omega
            · rw [if_neg a1, if_neg a2, if_neg (fun h => (h1.1 h).elim a1 a2)]; omega
      exact key _
    · rw [if_neg hf, Nat.add_zero]
      have hex : ∃ j, j < i ∧ T[j]? = some T[i] := by
        rcases Classical.em (∃ j, j < i ∧ T[j]? = some T[i]) with h | h
        · exact h
        · exact (hf ((firstS_one hc).2 fun j hj hjc => h ⟨j, hj, hjc⟩)).elim
      obtain ⟨j0, hj0, h0⟩ := hex
      congr 1
      funext e
      have : (∃ j, j < i ∧ T[j]? = T[e]?) ↔ (∃ j, j < i + 1 ∧ T[j]? = T[e]?) := by
        constructor
        · rintro ⟨j, hj, h⟩; exact ⟨j, by omega, h⟩
        · rintro ⟨j, hj, h⟩
          by_cases ej : j = i
          · subst ej; exact ⟨j0, hj0, by rw [h0, ← h, hc]⟩
          · exact ⟨j, by omega, h⟩
      simp only [this]

theorem wordSum_all (T : List α) : wordSum T T.length = T.length := by
  rw [wordSum_at T _ (Nat.le_refl _), List.countP_eq_length.2]
  · simp
  · intro e he
    simp only [List.mem_range] at he
    simpa using ⟨e, he, rfl⟩
end
end Sam

/- A row of words is copied: slices.Clone, walked. -/
set_option linter.unusedSectionVars false
set_option linter.unusedSimpArgs false
set_option linter.unusedVariables false
namespace Go.Proofs.Ytbakoigejihnaaa.Law
open Go.RowKit Go.AutoMap Go.Proofs.YtbakoigejihnaaaW.PrintWords Go.Proofs.YtbakoigejihnaaaW.PrintLast Go.Proofs.YtbakoigejihnaaaW.PrintMore
open Ref (S41 k41 txt)

theorem eq_nil_none (n c : Nat) (w : World) : (binOp .eql 22 (.slice none n c) (.slice none 0 0)).run Try.prog w = .ok (.bool true) w := by kernel_rfl
theorem eq_nil_some (ad : Addr) (n c : Nat) (w : World) : (binOp .eql 22 (.slice (some ad) n c) (.slice none 0 0)).run Try.prog w = .ok (.bool false) w := by kernel_rfl

/-- whatever happened to what the copy is made of: it is the call's own -/
def OwnW (w0 w : World) (v : Value) (l : List S41) : Prop := Kd.R k41 41 w w0.heap.size (fun k => w0.heap.size ≤ k) v l

set_option maxHeartbeats 1000000 in
theorem clone_calls (w : World) (A0 : Option Addr) (c0 : Nat) (l : List S41) (hC : Kd.C k41 w A0 l.length l) (hl : l.length ≤ 100000) :
    Calls Try.prog 28 #[.slice A0 l.length c0] w fun e w' => ∃ v, e = .returned v ∧ OwnW w w' v l ∧ Below w.heap.size w w' := by
  cases A0 with
  | none =>
    have hnil : l = [] := by
      cases l with
      | nil => rfl
      | cons x l =>
        obtain ⟨ad, h, _⟩ := hC.2.2 (by simp)
        simp at h
    subst hnil
    clear hC
    have hq := fun w => eq_nil_none 0 c0 w
    go_enter Try.func28, Try.ntmps28
    go_wp2_with fail
    go_ret
    exact ⟨_, rfl, Kd.R_nil _ _ _ _ _, Below.refl _ _⟩
  | some ad =>
    have HC := Aside0.mk hC
    clear hC
    have hq := fun w => eq_nil_some ad l.length c0 w
    have HB := Aside0.mk (Below.refl w.heap.size w)
    go_enter Try.func28, Try.ntmps28
    go_wp2_with (first | (refine Kd.R_lit k41 (w0 := w) w.heap.size 41 ?hg (N := 5) ?hd (xs := ([] : List S41)) (inner := []) (ok := fun k => w.heap.size ≤ k) (okp := fun k => w.heap.size ≤ k) ?hr ?hp (fun _ hk => hk) (Nat.le_refl _) (Below.refl _ _) (Nat.le_refl _) (by simp) ?_; (case hd => rfl); (case hg => rfl); (case hr => first | (go_simp; done) | (go_simp; rfl)); (case hp => exact (Reps.none _ _)); intro v1 w1 ho hb hg_ hnew_; have HO := Aside0.mk ho; have HB1 := Aside0.mk hb; clear ho hb hg_ hnew_) | (at_builtin; refine Kd.R_append_rows k41 (Rr := fun x cs => k41.K w1 x cs) (w0 := w) w.heap.size rfl (.tmp 5) (.tmp 6) 22 41 (.agg #[(.string ⟨#[]⟩), (.int .i64 0)]) 24 rfl Try.underlying22 Ref.info41 rfl (by decide) (by decide) v1 [] l (some ad) l.length c0 (fun k => w.heap.size ≤ k) (fun _ => False) rfl rfl HO.out (Kd.C_below HC.out HB1.out) ?hKM (fun _ hk => hk.elim) ?hf HB1.out HB1.out.size ?hl ?_; (case hKM => intro x cs h; exact (by rw [Ref.k41_open h]; exact Ref.k41_mkM _ _ _ x)); (case hf => exact fun k hk => Nat.le_trans HB1.out.size hk); (case hl => simp; omega); intro v2 w2 ho2 hb2 hg2 hat2; have HO2 := Aside0.mk ho2; have HB2 := Aside0.mk hb2; clear ho2 hb2 hg2 hat2))
    go_ret
    exact ⟨_, rfl, HO2.out, HB2.out⟩
end Go.Proofs.Ytbakoigejihnaaa.Law

/- A row of words of the call's own is turned round: slices.Reverse. -/
set_option linter.unusedSectionVars false
set_option linter.unusedSimpArgs false
set_option linter.unusedVariables false
namespace Go.Proofs.Ytbakoigejihnaaa.Law
open Go.RowKit Go.AutoMap Go.Proofs.YtbakoigejihnaaaW.PrintWords Go.Proofs.YtbakoigejihnaaaW.PrintLast Go.Proofs.YtbakoigejihnaaaW.PrintMore
open Ref (S41 k41 txt)
open Go.Shelf Go.Sort

def revRen : Go.Shelf.Ren := ⟨fun | 35 => 32 | n => n, fun | 23 => 41 | n => n, fun n => n⟩
theorem laysRev : SlLaysE0.n35 Try.prog revRen := {
  mixed := by kernel_rfl
  f35 := ⟨Try.f32.name, by decide, Try.func32.trans (congrArg some (by kernel_rfl))⟩
  t0 := Try.underlying0
  a0 := Try.isAgg0
  z0 := Try.sizeOf0
  v0 := Try.zeroValue0
  t3 := Try.underlying3
  a3 := Try.isAgg3
  z3 := Try.sizeOf3
  v3 := Try.zeroValue3
  t4 := Try.underlying4
  a4 := Try.isAgg4
  z4 := Try.sizeOf4
  v4 := Try.zeroValue4
  t22 := Try.underlying22
  a22 := Try.isAgg22
  z22 := Try.sizeOf22
  v22 := Try.zeroValue22 }

def encW (x : S41) : List Value := [.string x.f0, .int .i64 x.f1]
instance : Inhabited S41 := ⟨Ref.z41⟩

theorem C_of_holdsK {w : World} {g : Nat} {l : List S41} (h : HoldsK encW 2 w g 0 l.toArray) (hl : l.length ≤ 100000) : Kd.C k41 w (some ⟨g, 0, none⟩) l.length l := by
  refine ⟨rfl, by omega, fun _ => ⟨_, rfl, fun j p hj => ⟨encW p, rfl, Ref.k41_mk w p, fun i u hu => ?_⟩⟩⟩
  have hjl : j < l.length := (List.getElem?_eq_some_iff.1 hj).1
  have hp : l.toArray[j]! = p := by
    rw [getElem!_pos _ j (by simpa using hjl)]
    have := (List.getElem?_eq_some_iff.1 hj).2
    simpa using this
  have hi : i < 2 := by
    have := (List.getElem?_eq_some_iff.1 hu).1
    simpa [encW] using this
  have := (h.cell (i := j) (c := i) (by simpa using hjl) hi).1
  rw [hp, Nat.zero_add] at this
  have e : (⟨g, 0, none⟩ : Addr).add (j * k41.sz + i) = ⟨g, j * 2 + i, none⟩ := by
    show (⟨g, 0, none⟩ : Addr).add (j * 2 + i) = _
    simp [Addr.add]
    omega
  rw [e, this]
  rw [getElem!_pos (encW p) i (by simpa [encW] using hi)]
  rw [List.getElem?_eq_getElem (by simpa [encW] using hi)] at hu
  exact hu

theorem rev_calls (w : World) (base : Nat) (ok : Nat → Prop) (v : Value) (l : List S41) (hR : Kd.R k41 41 w base ok v l) (hl : l.length ≤ 100000) :
    Calls Try.prog 32 #[v] w fun e w' => e = .returned (.tuple #[]) ∧ (∃ A1 c1, v = .slice A1 l.length c1 ∧ Kd.C k41 w' A1 l.length l.reverse) ∧ Below base w w' := by
  obtain ⟨_, inner, hown, hrep⟩ := hR
  rcases hown.2 with ⟨hv, hn⟩ | ⟨g, cap, cur, hv, hg, hrest⟩
  · subst hv
    have hnil : l = [] := List.eq_nil_of_length_eq_zero (by simpa using hn)
    subst hnil
    have := AnyQ.slices_Reverse_empty laysRev none 0 w
    exact this.mono fun e w' ⟨h1, h2⟩ => ⟨h1, ⟨none, 0, rfl, ⟨rfl, by simp, fun h => by simp at h⟩⟩, by rw [h2]; exact Below.refl _ _⟩
  · subst hv
    have hb : base ≤ g := hg
    have hH : HoldsK encW 2 w g 0 l.toArray := by
      intro t ht
      rw [size_flatK] at ht
      have ht2 : t < l.length * 2 := by simpa using ht
      have hi : t / 2 < l.length := by omega
      rw [get_flatK _ _ _ _ ht, Nat.zero_add, World.ownsRow.cellAt hown t (by show t < l.length * 2; exact ht2)]
      refine ⟨?_, World.ownsRow.frozenAt hown t⟩
      have hM := hrep.2 (t / 2) _ (List.getElem?_eq_getElem hi)
      have hcs := Ref.k41_openM hM
      have hat : inner[t]? = ((inner.drop (t / 2 * k41.sz)).take k41.sz)[t % 2]? := by
        rw [List.getElem?_take, List.getElem?_drop]
        have e : k41.sz = 2 := rfl
        rw [e, if_pos (by omega)]
        congr 1; omega
      have e2 : l.toArray[t / 2]! = l[t / 2] := by
        rw [getElem!_pos _ (t / 2) (by simpa using hi)]; simp
      rw [hat, hcs, e2]
      show [Value.string l[t / 2].f0, Value.int .i64 l[t / 2].f1][t % 2]? = some (id (encW l[t / 2])[t % 2]!)
      have hlt : t % 2 < (encW l[t / 2]).length := by simp [encW]; omega
      rw [getElem!_pos (encW l[t / 2]) (t % 2) hlt]
      exact List.getElem?_eq_getElem hlt
    have hcall := AnyQ.slices_Reverse laysRev 2 Try.isAgg41 Try.sizeOf41 encW (fun _ => rfl) (fun x v hv => by simp [encW] at hv; rcases hv with rfl | rfl <;> rfl) g 0 cap l.toArray w hH (by simp; omega)
    change Calls Try.prog 32 _ _ _ at hcall
    have hcall' : Calls Try.prog 32 #[.slice (some ⟨g, 0, none⟩) l.length cap] w fun e w' => e = .returned (.tuple #[]) ∧ ∃ n, w' = putRowK encW 2 (Sort.ahead w n) g 0 l.toArray.reverse := by simpa using hcall
    refine hcall'.mono ?_
    rintro e w' ⟨rfl, n, rfl⟩
    refine ⟨rfl, ⟨_, _, rfl, ?_⟩, ?_⟩
    · have h2 : HoldsK encW 2 (putRowK encW 2 (Sort.ahead w n) g 0 l.reverse.toArray) g 0 l.reverse.toArray :=
        holds_putRow id (Sort.ahead w n) g 0 (flatK encW 2 l.toArray) _ hH (by simp)
      have h3 := C_of_holdsK h2 (by simpa using hl)
      rw [List.length_reverse] at h3
      have e : l.toArray.reverse = l.reverse.toArray := by simp
      rw [e]; exact h3
    · refine ⟨rfl, rfl, rfl, by simp [putRowK, putRow, mapBlock, Sort.ahead], fun k hk => ?_⟩
      have : g ≠ k := by omega
      simp [putRowK, putRow, mapBlock, Array.getElem?_modify, this, Sort.ahead]
end Go.Proofs.Ytbakoigejihnaaa.Law

/- The law AutomatonSums, walked. -/
set_option linter.unusedSectionVars false
set_option linter.unusedSimpArgs false
set_option linter.unusedVariables false
namespace Go.Proofs.Ytbakoigejihnaaa.Law
open Go.RowKit Go.AutoMap Go.Proofs.YtbakoigejihnaaaW.PrintWords Go.Proofs.YtbakoigejihnaaaW.PrintLast Go.Proofs.YtbakoigejihnaaaW.PrintMore
open Sam (Auto Inv countS firstS nRuns endsS bestS Run wordSum)
open Ref (S41 k41 txt)
open Wk (Built)
attribute [local go_sem] max2_int min2_int max_two min_two max_three min_three max_four min_four   -- for this text's walks alone

theorem C_one (w : World) (b : Nat) (s : ByteArray) (n : Int) (h : w.heap[b]? = some (.cells #[.string s, .int .i64 n] 41 (0, 0))) : Kd.C k41 w (some ⟨b, 0, none⟩) [(⟨s, n⟩ : S41)].length [(⟨s, n⟩ : S41)] := by
  refine ⟨rfl, by simp, fun _ => ⟨_, rfl, fun j p hj => ⟨[.string p.f0, .int .i64 p.f1], rfl, Ref.k41_mk w p, fun i u hu => ?_⟩⟩⟩
  cases j with
  | succ j => simp at hj
  | zero =>
    simp only [List.getElem?_cons_zero, Option.some.injEq] at hj
    subst hj
    have h0 : w.cell? ⟨b, 0, none⟩ = some (.string s) := World.news_of_block h 0 _ rfl
    have h1 : w.cell? ⟨b, 1, none⟩ = some (.int .i64 n) := World.news_of_block h 1 _ rfl
    match i, hu with
    | 0, hu =>
      simp only [List.getElem?_cons_zero, Option.some.injEq] at hu
      subst hu
      have e : (⟨b, 0, none⟩ : Addr).add (0 * k41.sz + 0) = ⟨b, 0, none⟩ := by simp [Addr.add]
      rw [e]; exact h0
    | 1, hu =>
      simp only [List.getElem?_cons_succ, List.getElem?_cons_zero, Option.some.injEq] at hu
      subst hu
      have e : (⟨b, 0, none⟩ : Addr).add (0 * k41.sz + 1) = ⟨b, 1, none⟩ := by simp [Addr.add]
      rw [e]; exact h1
    | i + 2, hu => simp at hu

theorem txt_reverse (l : List S41) : txt l.reverse = (txt l).reverse := by simp [txt]

set_option maxHeartbeats 4000000 in
set_option maxRecDepth 100000 in
theorem sums_walk (w : World) (A0 : Option Addr) (c0 : Nat) (T : List S41) (h0 : Kd.C k41 w A0 T.length T) (hc0 : T.length ≤ c0) : Calls Try.prog 9 #[.slice A0 T.length c0] w (Yes w) := by
  have HC0 := Aside0.mk h0
  clear h0
  have F0 := Aside0.mk (@few24_len T)
  go_enter Try.func9, Try.ntmps9
  go_wp2_with (go_at_call 10; refine (awake _).mono ?_; rintro e w1 ⟨rfl, hb1⟩)
  have HB1 := Aside0.mk hb1
  clear hb1
  have HF := Aside0.mk (few24_calls w1 A0 c0 T (Kd.C_below HC0.out HB1.out) hc0)
  generalize few24 T = b0 at HF F0
  cases b0 with
  | false =>
    go_wp2_with (go_at_call 17; with_reducible refine HF.out.mono ?_; rintro e w2 ⟨rfl, hd⟩)
    go_ret
    exact ⟨rfl, drawn0_below HB1.out hd⟩
  | true =>
    have hT := F0.out rfl
    go_wp2_with (go_at_call 17; with_reducible refine HF.out.mono ?_; rintro e w2 ⟨rfl, hd⟩)
    have HB2 : Aside0 (Below w.heap.size w w2) := ⟨drawn0_below HB1.out hd⟩
    clear hd HF HB1 F0
    refine (build A0 c0 T (Kd.C_below HC0.out HB2.out) (by omega)).mono ?_
    rintro e w4 ⟨ba, A, rfl, hm, hbt, hb4⟩
    have HM := Aside0.mk hm
    have HBt := Aside0.mk hbt
    have HB4 : Aside0 (Below w.heap.size w w4) := ⟨HB2.out.trans (hb4.mono HB2.out.size)⟩
    have hW : (txt T).length ≤ 8192 := by rw [Ref.txt_length]; omega
    clear hm hbt hb4 HB2
    go_wp2_with fail
    refine (clone_calls w4 A0 c0 T (Kd.C_below HC0.out HB4.out) (by omega)).mono ?_
    rintro e w5 ⟨v, rfl, hv, hb5⟩
    have HV := Aside0.mk hv
    have HB5 := Aside0.mk hb5
    clear hv hb5
    go_wp2_with fail
    refine (rev_calls w5 w4.heap.size _ v T HV.out (by omega)).mono ?_
    rintro e w6 ⟨rfl, ⟨A6, c6, rfl, hC6⟩, hb6⟩
    have HC6 : Aside0 (Kd.C k41 w6 A6 T.reverse.length T.reverse) := ⟨by rw [List.length_reverse]; exact hC6⟩
    have HM6 : Aside0 (AutoMem 53 56 w6 w2.heap.size ba A) := ⟨HM.out.below (HB5.out.trans hb6)⟩
    have HB6 : Aside0 (Below w.heap.size w w6) := ⟨HB4.out.trans ((HB5.out.trans hb6).mono HB4.out.size)⟩
    clear hC6 hb6 HV HM HB4 HB5
    go_wp2_with fail
    have qb := build A6 c6 T.reverse HC6.out (by rw [List.length_reverse]; omega)
    rw [List.length_reverse] at qb
    refine qb.mono ?_
    clear qb
    rintro e w7 ⟨bb, B, rfl, hm, hbt, hb7⟩
    have HMb := Aside0.mk hm
    have HBtb := Aside0.mk hbt
    have HM7 : Aside0 (AutoMem 53 56 w7 w2.heap.size ba A) := ⟨HM6.out.below hb7⟩
    have HB7 : Aside0 (Below w.heap.size w w7) := ⟨HB6.out.trans (hb7.mono HB6.out.size)⟩
    clear hm hbt hb7 HM6 HB6 HC6
    have hsum : ∀ i, i ≤ T.length → wordSum (txt T) i ≤ T.length := fun i hi => by
      rw [Sam.wordSum_at _ _ (by rw [Ref.txt_length]; exact hi)]
      refine Nat.le_trans List.countP_le_length ?_
      simp [Ref.txt_length]
    have HSum := Aside0.mk hsum
    clear hsum
    go_wp2_with fail
    go_loopg [8, 39] T.length (fun kq v8 v39 w' => ∃ (i s : Nat), v39 = .int .i64 i ∧ v8 = .int .i64 s ∧ Aside0 (i + kq = T.length) ∧ Aside0 (wordSum (txt T) i = s) ∧ Aside0 (AutoMem 53 56 w' w2.heap.size ba A) ∧ Aside0 (AutoMem 53 56 w' w6.heap.size bb B) ∧ Aside0 (Below w.heap.size w w'))
    case atStart => exact ⟨0, 0, rfl, rfl, ⟨by omega⟩, ⟨rfl⟩, HM7, HMb, HB7⟩
    case round =>
      obtain ⟨i, s, rfl, rfl, HK, HS, HMi, HMbi, HBi⟩ := hrel
      clear HM7 HMb HB7
      have hs40 : s ≤ 40 := by have := HSum.out i (by have := HK.out; omega); rw [HS.out] at this; omega
      by_cases hi : i < T.length
      · have hib : decide ((i : Int) < (T.length : Int)) = true := by simpa using hi
        obtain ⟨adT, e1, hx1, hx2⟩ := Ref.at_T41 (Kd.C_below HC0.out HBi.out) (i : Int) (by omega) (by omega)
        subst e1
        simp only [Int.toNat_natCast] at hx1 hx2
        have hwi : (txt T)[i]? = some (Ref.rd_T41 T (i : Nat)).f0 := Ref.txt_at T hi
        generalize (Ref.rd_T41 T (i : Nat)).f0 = c at hx1 hwi
        generalize (Ref.rd_T41 T (i : Nat)).f1 = q at hx2
        have Hwi := Aside0.mk hwi
        clear hwi
        go_wp2_with fail
        obtain ⟨W0, hW0⟩ : ∃ W0, W0 = (wr.alloc (Obj.cells #[Value.string c, Value.int IntKind.i64 q] 41)).alloc (Obj.cells #[Value.string c, Value.int IntKind.i64 q] 41) := ⟨_, rfl⟩
        rw [← hW0]
        have hbl : Below wr.heap.size wr W0 := by rw [hW0]; exact ((Below.refl _ _).alloc (Nat.le_refl _) _).alloc (by simp) _
        have hsz : W0.heap.size = wr.heap.size + 2 := by rw [hW0]; simp
        have hblk0 : W0.heap[wr.heap.size]? = some (.cells #[.string c, .int .i64 q] 41 (0, 0)) := by rw [hW0, heap_alloc_old _ _ (by simp)]; exact heap_alloc_new _ _
        have hblk1 : W0.heap[wr.heap.size + 1]? = some (.cells #[.string c, .int .i64 q] 41 (0, 0)) := by
          rw [hW0]
          have := heap_alloc_new (wr.alloc (Obj.cells #[Value.string c, Value.int IntKind.i64 q] 41)) (Obj.cells #[Value.string c, Value.int IntKind.i64 q] 41)
          rwa [show (wr.alloc (Obj.cells #[Value.string c, Value.int IntKind.i64 q] 41)).heap.size = wr.heap.size + 1 from by simp] at this
        have HM0 : Aside0 (AutoMem 53 56 W0 w2.heap.size ba A) := ⟨HMi.out.below hbl⟩
        have HMb0 : Aside0 (AutoMem 53 56 W0 w6.heap.size bb B) := ⟨HMbi.out.below hbl⟩
        have HB0 : Aside0 (Below w.heap.size w W0) := ⟨HBi.out.trans (hbl.mono HBi.out.size)⟩
        have Hk0 := Aside0.mk hblk0
        have Hsz := Aside0.mk hsz
        have hC1 := C_one W0 (wr.heap.size + 1) c q hblk1
        have qf := first (some ⟨wr.heap.size + 1, 0, none⟩) 1 [(⟨c, q⟩ : S41)] hC1 (by simp) HM0.out HBt.out hW
        clear hW0 hbl hblk0 hblk1 hsz hC1 hx1 hx2 HMi HMbi HBi
        refine qf.mono ?_
        clear qf
        rintro e w8 ⟨rfl, hb8⟩
        rw [show txt [(⟨c, q⟩ : S41)] = [c] from rfl]
        have hk8 : w8.heap[wr.heap.size]? = some (.cells #[.string c, .int .i64 q] 41 (0, 0)) := by rw [hb8.block _ (by rw [Hsz.out]; omega)]; exact Hk0.out
        have hlt8 : wr.heap.size < w8.heap.size := by have := hb8.size; have := Hsz.out; omega
        have p0 : w8.cell? ⟨wr.heap.size, 0, none⟩ = some (.string c) := World.news_of_block hk8 0 _ rfl
        have p1 : w8.cell? ⟨wr.heap.size, 1, none⟩ = some (.int .i64 q) := World.news_of_block hk8 1 _ rfl
        have HM8 : Aside0 (AutoMem 53 56 w8 w2.heap.size ba A) := ⟨HM0.out.below hb8⟩
        have HMb8 : Aside0 (AutoMem 53 56 w8 w6.heap.size bb B) := ⟨HMb0.out.below hb8⟩
        have HB8 : Aside0 (Below w.heap.size w w8) := ⟨HB0.out.trans (hb8.mono HB0.out.size)⟩
        clear hb8 hk8 HM0 HMb0 HB0 Hk0 Hsz
        have hnext : wordSum (txt T) (i + 1) = s + if firstS (txt T) [c] = (i : Int) then countS (txt T) [c] else 0 := by
          simp only [wordSum, Hwi.out, HS.out]
        have Hnx := Aside0.mk hnext
        clear hnext
        generalize hff : firstS (txt T) [c] = f at Hnx
        clear hff
        by_cases hfi : f = (i : Int)
        · rw [if_pos hfi] at Hnx
          subst hfi
          have hcle := Sam.countS_le (txt T) [c]
          rw [Ref.txt_length] at hcle
          go_wp2_with fail
          obtain ⟨W1, hW1⟩ : ∃ W1, W1 = w8.alloc (Obj.cells #[Value.string c, Value.int IntKind.i64 q] 41) := ⟨_, rfl⟩
          rw [← hW1]
          have hbl : Below w8.heap.size w8 W1 := by rw [hW1]; exact (Below.refl _ _).alloc (Nat.le_refl _) _
          have hblk : W1.heap[w8.heap.size]? = some (.cells #[.string c, .int .i64 q] 41 (0, 0)) := by rw [hW1]; exact heap_alloc_new _ _
          have HM1 : Aside0 (AutoMem 53 56 W1 w2.heap.size ba A) := ⟨HM8.out.below hbl⟩
          have HMb1 : Aside0 (AutoMem 53 56 W1 w6.heap.size bb B) := ⟨HMb8.out.below hbl⟩
          have HB1 : Aside0 (Below w.heap.size w W1) := ⟨HB8.out.trans (hbl.mono HB8.out.size)⟩
          have qc := count (some ⟨w8.heap.size, 0, none⟩) 1 [(⟨c, q⟩ : S41)] (C_one W1 w8.heap.size c q hblk) (by simp) HM1.out HBt.out
          clear hW1 hbl hblk p0 p1 hlt8 HM8 HMb8 HB8
          refine qc.mono ?_
          clear qc
          rintro e w9 ⟨rfl, hb9⟩
          rw [show txt [(⟨c, q⟩ : S41)] = [c] from rfl]
          generalize countS (txt T) [c] = cc at hcle Hnx
          have HM9 : Aside0 (AutoMem 53 56 w9 w2.heap.size ba A) := ⟨HM1.out.below hb9⟩
          have HMb9 : Aside0 (AutoMem 53 56 w9 w6.heap.size bb B) := ⟨HMb1.out.below hb9⟩
          have HB9 : Aside0 (Below w.heap.size w w9) := ⟨HB1.out.trans (hb9.mono HB1.out.size)⟩
          clear hb9 HM1 HMb1 HB1
          go_wp2_with fail
          go_roundg (gk - 1)
          case measure => have := HK.out; omega
          case rel => exact ⟨i + 1, s + cc, by go_num, by go_num, ⟨by have := HK.out; omega⟩, Hnx, HM9, HMb9, HB9⟩
        · have hfb : (f == (i : Int)) = false := by rw [beq_eq_false_iff_ne]; exact hfi
          rw [if_neg hfi, Nat.add_zero] at Hnx
          clear hfi
          go_wp2_with fail
          go_roundg (gk - 1)
          case measure => have := HK.out; omega
          case rel => exact ⟨i + 1, s, by go_num, rfl, ⟨by have := HK.out; omega⟩, Hnx, HM8, HMb8, HB8⟩
      · have hib : decide ((i : Int) < (T.length : Int)) = false := by simpa using hi
        have hiT : i = T.length := by have := HK.out; omega
        have hsT : s = T.length := by
          have h1 := Sam.wordSum_all (txt T)
          rw [Ref.txt_length] at h1
          rw [← HS.out, hiT]; exact h1
        subst hsT
        have hlow := HBt.out.low
        have hfew := HBt.out.few
        have hhigh := HBt.out.high
        rw [Ref.txt_length] at hlow hfew hhigh
        have g1 : decide ((T.length : Int) + 1 ≤ ((A.m : Nat) : Int)) = true := by simp; omega
        have Hfew := Aside0.mk hfew
        have Hhigh := Aside0.mk hhigh
        clear hfew hhigh
        have hr1 := Sam.le_nRuns (txt T)
        have hr2 := Sam.nRuns_le (txt T)
        rw [Ref.txt_length] at hr1 hr2
        have Hrev : Aside0 (nRuns (txt T.reverse) = nRuns (txt T)) := ⟨by rw [txt_reverse, Sam.nRuns_reverse]⟩
        obtain ⟨M, hM⟩ : ∃ M, M = T.length * (T.length + 1) := ⟨_, rfl⟩
        have hM1 : M ≤ 40 * 41 := by rw [hM]; exact Nat.mul_le_mul hT (by omega)
        have hMi : ((T.length : Int) * ((T.length : Int) + 1)) = (M : Int) := by rw [hM, Int.natCast_mul]; rfl
        rw [← hM] at hr2
        have HMm := Aside0.mk hM
        clear hM
        have Hr2 := Aside0.mk hr2
        generalize hnr : nRuns (txt T) = r at hr1 hr2 Hr2 Hrev
        have Hnr := Aside0.mk hnr
        clear hnr
        go_wp2_with fail
        refine (Wk.states_calls wr w2.heap.size ba A HMi.out).mono ?_
        rintro e wx ⟨rfl, rfl⟩
        have g2 : (((A.m : Nat) : Int) ≤ (T.length : Int) + 1) ∨ (((A.m : Nat) : Int) ≤ 2 * (T.length : Int) - 1 ∧ (T.length : Int) + 1 ≤ 2 * (T.length : Int) - 1) := by
          have := Hfew.out
          have := Hhigh.out
          omega
        have G2 := Aside0.mk g2
        clear g2
        go_wp2_with fail
        refine (Wk.states_calls wx w2.heap.size ba A HMi.out).mono ?_
        rintro e wy ⟨rfl, rfl⟩
        by_cases h2n : 2 * (T.length : Int) - 1 ≤ (T.length : Int) + 1
        · have g3 : decide (((A.m : Nat) : Int) ≤ (T.length : Int) + 1) = true := by
            rw [decide_eq_true_eq]
            have := G2.out
            omega
          go_wp2_with fail
          have j1 : decide ((T.length : Int) ≤ (r : Int)) = true := by simp; omega
          have j1' : decide (T.length ≤ r) = true := by simp; omega
          have j2 : decide ((r : Int) ≤ (M : Int) / 2) = true := by rw [decide_eq_true_eq]; have := Hr2.out; omega
          have j2' : decide (r ≤ M / 2) = true := by rw [decide_eq_true_eq]; have := Hr2.out; omega
          have j3 : Int.tdiv (M : Int) 2 = (M : Int) / 2 := by rw [Int.tdiv_eq_ediv_of_nonneg (by omega)]
          refine (Wk.q_runs HMi.out HBt.out (by simp [Ref.txt_length]; omega)).mono ?_
          rintro e wa1 ⟨rfl, hb⟩
          rw [Hnr.out]
          have HMp : Aside0 (AutoMem 53 56 wa1 w2.heap.size ba A) := ⟨HMi.out.below hb⟩
          have HMbp : Aside0 (AutoMem 53 56 wa1 w6.heap.size bb B) := ⟨HMbi.out.below hb⟩
          have HBp : Aside0 (Below w.heap.size w wa1) := ⟨HBi.out.trans (hb.mono HBi.out.size)⟩
          clear hb
          go_wp2_with fail
          refine (Wk.q_runs HMp.out HBt.out (by simp [Ref.txt_length]; omega)).mono ?_
          rintro e wa2 ⟨rfl, hb⟩
          rw [Hnr.out]
          have HMq : Aside0 (AutoMem 53 56 wa2 w2.heap.size ba A) := ⟨HMp.out.below hb⟩
          have HMbq : Aside0 (AutoMem 53 56 wa2 w6.heap.size bb B) := ⟨HMbp.out.below hb⟩
          have HBq : Aside0 (Below w.heap.size w wa2) := ⟨HBp.out.trans (hb.mono HBp.out.size)⟩
          clear hb
          go_wp2_with fail
          refine (Wk.q_runs HMq.out HBt.out (by simp [Ref.txt_length]; omega)).mono ?_
          rintro e wa3 ⟨rfl, hb⟩
          rw [Hnr.out]
          have HMr : Aside0 (AutoMem 53 56 wa3 w2.heap.size ba A) := ⟨HMq.out.below hb⟩
          have HMbr : Aside0 (AutoMem 53 56 wa3 w6.heap.size bb B) := ⟨HMbq.out.below hb⟩
          have HBr : Aside0 (Below w.heap.size w wa3) := ⟨HBq.out.trans (hb.mono HBq.out.size)⟩
          clear hb
          go_wp2_with fail
          refine (Wk.q_runs HMbr.out HBtb.out (by simp [Ref.txt_length]; omega)).mono ?_
          rintro e wa4 ⟨rfl, hb⟩
          rw [Hrev.out]
          have HMs : Aside0 (AutoMem 53 56 wa4 w2.heap.size ba A) := ⟨HMr.out.below hb⟩
          have HMbs : Aside0 (AutoMem 53 56 wa4 w6.heap.size bb B) := ⟨HMbr.out.below hb⟩
          have HBs : Aside0 (Below w.heap.size w wa4) := ⟨HBr.out.trans (hb.mono HBr.out.size)⟩
          clear hb
          go_wp2_with fail
          go_ret
          exact ⟨by first | rfl | (simp; done), HBs.out⟩
        · have g3 : decide (((A.m : Nat) : Int) ≤ 2 * (T.length : Int) - 1) = true := by
            rw [decide_eq_true_eq]
            have := G2.out
            omega
          go_wp2_with fail
          have j1 : decide ((T.length : Int) ≤ (r : Int)) = true := by simp; omega
          have j1' : decide (T.length ≤ r) = true := by simp; omega
          have j2 : decide ((r : Int) ≤ (M : Int) / 2) = true := by rw [decide_eq_true_eq]; have := Hr2.out; omega
          have j2' : decide (r ≤ M / 2) = true := by rw [decide_eq_true_eq]; have := Hr2.out; omega
          have j3 : Int.tdiv (M : Int) 2 = (M : Int) / 2 := by rw [Int.tdiv_eq_ediv_of_nonneg (by omega)]
          refine (Wk.q_runs HMi.out HBt.out (by simp [Ref.txt_length]; omega)).mono ?_
          rintro e wa1 ⟨rfl, hb⟩
          rw [Hnr.out]
          have HMp : Aside0 (AutoMem 53 56 wa1 w2.heap.size ba A) := ⟨HMi.out.below hb⟩
          have HMbp : Aside0 (AutoMem 53 56 wa1 w6.heap.size bb B) := ⟨HMbi.out.below hb⟩
          have HBp : Aside0 (Below w.heap.size w wa1) := ⟨HBi.out.trans (hb.mono HBi.out.size)⟩
          clear hb
          go_wp2_with fail
          refine (Wk.q_runs HMp.out HBt.out (by simp [Ref.txt_length]; omega)).mono ?_
          rintro e wa2 ⟨rfl, hb⟩
          rw [Hnr.out]
          have HMq : Aside0 (AutoMem 53 56 wa2 w2.heap.size ba A) := ⟨HMp.out.below hb⟩
          have HMbq : Aside0 (AutoMem 53 56 wa2 w6.heap.size bb B) := ⟨HMbp.out.below hb⟩
          have HBq : Aside0 (Below w.heap.size w wa2) := ⟨HBp.out.trans (hb.mono HBp.out.size)⟩
          clear hb
          go_wp2_with fail
          refine (Wk.q_runs HMq.out HBt.out (by simp [Ref.txt_length]; omega)).mono ?_
          rintro e wa3 ⟨rfl, hb⟩
          rw [Hnr.out]
          have HMr : Aside0 (AutoMem 53 56 wa3 w2.heap.size ba A) := ⟨HMq.out.below hb⟩
          have HMbr : Aside0 (AutoMem 53 56 wa3 w6.heap.size bb B) := ⟨HMbq.out.below hb⟩
          have HBr : Aside0 (Below w.heap.size w wa3) := ⟨HBq.out.trans (hb.mono HBq.out.size)⟩
          clear hb
          go_wp2_with fail
          refine (Wk.q_runs HMbr.out HBtb.out (by simp [Ref.txt_length]; omega)).mono ?_
          rintro e wa4 ⟨rfl, hb⟩
          rw [Hrev.out]
          have HMs : Aside0 (AutoMem 53 56 wa4 w2.heap.size ba A) := ⟨HMr.out.below hb⟩
          have HMbs : Aside0 (AutoMem 53 56 wa4 w6.heap.size bb B) := ⟨HMbr.out.below hb⟩
          have HBs : Aside0 (Below w.heap.size w wa4) := ⟨HBr.out.trans (hb.mono HBr.out.size)⟩
          clear hb
          go_wp2_with fail
          go_ret
          exact ⟨by first | rfl | (simp; done), HBs.out⟩
end Go.Proofs.Ytbakoigejihnaaa.Law

/- The counts of the different words of a text add up to their number: the row of AutomatonSums, out of the law's walk. -/
namespace Go.Proofs.Ytbakoigejihnaaa.Law
open Go.ChangeShapes Go.WideShapes Go.ChangeAt Go.RowKit
open Go.ChangeMaps (open_string shut_string)
set_option linter.unusedVariables false

set_option maxRecDepth 100000 in
theorem sums_lifted (os : Os) (started : os.Started) (H : Type) (enc : TypeId × Value → H) :
    ReturnsInHanded {} Try.checked os 9 .any (Rows.automatonSumsSpec.pre6 enc Try.prog Try.f9 Rows.automatonSumsRow.domain false) (Rows.automatonSumsSpec.post enc Try.prog Try.f9 false true false false) := by
  refine returnsInHanded_of_change_sized (C := Try.checked) own started (by kernel_rfl) Try.func9
    (ChangeSpec.witness6 (enc := enc) (C := Try.checked) false ⟨#[], #[.slice none 0 0], []⟩ 8 (by kernel_rfl) (by kernel_rfl) (by kernel_rfl) (by kernel_rfl)) ?_
  intro W base args ds gs before hval0 hW hcnd hsz0 _
  have hval : ∀ (j : Nat) t v, Try.f9.params[j]? = some t → args[j]? = some v → Value.okWide Try.prog W .any base t v := hval0
  have hW' := hW
  obtain ⟨p, q, hA0, hV, rfl, hfz, hnd⟩ := hW
  have hA : DataW.TrodAll enc Try.prog W 0 (fun _ => true) true Try.f9.params.toList args.toList ds p := hA0
  rw [Try.params9] at hA hval
  obtain ⟨v0, vs0, d0, ds0, p0, q0, hargs, rfl, rfl, h0, r0⟩ := trodAll_cons hA
  obtain ⟨rfl, rfl, rfl⟩ := trodAll_nil r0
  obtain rfl : args = #[v0] := by cases args; simp_all
  obtain ⟨rfl, rfl⟩ := trodVars_none hV
  obtain ⟨a0, len0, cap0, rfl⟩ := okWide_slice Try.underlying22 (hval 0 22 v0 rfl rfl)
  have k0 := h0
  have lt0 : ∀ x ∈ p0, x.block < W.heap.size := by obtain ⟨m, hm⟩ := k0; exact DataW.trod_lt m _ _ _ hm
  obtain ⟨l0, rfl, hl0, hC0⟩ := open_words h0
  clear hA0 hval0 hsz0
  refine (sums_walk W a0 cap0 l0 hC0 hl0).mono fun e W' ⟨he, bel⟩ => ?_
  subst he
  exact ⟨_, rfl, _, _, _, [], _, [], hW', trodAll_mk1 (shut_bool Try.underlying4 _), (trodAll_cons_mk (Below.trod laidOut (by kernel_rfl) (of_decide_eq_true (by kernel_rfl)) k0 bel lt0) trodAll_mk0), rfl, bel.frame _, fun h => by cases h⟩

theorem sums_over : Rows.automatonSumsRow.holds Try.pinned (OpenSpec.ofChange Rows.automatonSumsSpec) :=
  OpenClaim.holds_of_wide 9 Try.f9 rfl rfl rfl rfl rfl rfl rfl ⟨rfl, rfl, rfl, rfl, rfl⟩ rfl rfl rfl rfl rfl (by kernel_rfl) Try.func9 (by kernel_rfl)
    (of_decide_eq_true (by kernel_rfl)) (by unfold Func.isWrapper; first | (rw [if_pos (by decide +kernel)]; kernel_rfl) | (rw [if_neg (by decide +kernel)]; exact ⟨rfl, rfl⟩))
    (fun os started H enc _ => sums_lifted os started H enc)
end Go.Proofs.Ytbakoigejihnaaa.Law
namespace Go.Proofs.Ytbakoigejihnaaa
/-- The row, under a short name, for the claim. -/
theorem automatonSums_holds : Rows.AutomatonSumsSaid := Law.sums_over
end Go.Proofs.Ytbakoigejihnaaa
