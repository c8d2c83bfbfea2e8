/- The law AutomatonCommon returns true for every input: the longest run is a run of both texts, at both places. Conditions: none. -/
import Derived.Test.YtbakoigejihnaaaMRef
/- Reference functions: what they compute and that the code computes it. -/
namespace Go.Proofs.Ytbakoigejihnaaa.Ref
open Go.RowKit Go.Proofs.YtbakoigejihnaaaW.PrintWords Go.Proofs.YtbakoigejihnaaaW.PrintLast Go.Proofs.YtbakoigejihnaaaW.PrintMore
attribute [local go_sem] max2_int min2_int max_two min_two max_three min_three max_four min_four   -- for this text's walks alone
set_option linter.unusedVariables false
set_option linter.unusedSimpArgs false

/-! ### licitref27_Ends: function 22 -/
mutual
def licitref27_Ends.l0 : Nat → List (S41) → List (S41) → List Int → Int → Option (List Int)
  | 0, _, _, _, _ => none
  | k + 1, x0, x1, x5, x6 => if x6 < (x1.length : Int) then (licitref27_Ends.l1 k x0 x1 x5 x6 (wrap64 (x6 + 1))) else (some x5)
def licitref27_Ends.l1 : Nat → List (S41) → List (S41) → List Int → Int → Int → Option (List Int)
  | 0, _, _, _, _, _ => none
  | k + 1, x0, x1, x5, x6, x7 => if 0 ≤ (wrap64 ((wrap64 (x6 + 1)) - x7)) then (if (wrap64 ((wrap64 (x6 + 1)) - x7)) ≤ (wrap64 (x6 + 1)) then (if (wrap64 (x6 + 1)) ≤ (x1.length : Int) then ((licitref27_First.f k x0 ((x1.take ((wrap64 (x6 + 1)) : Int).toNat).drop ((wrap64 ((wrap64 (x6 + 1)) - x7)) : Int).toNat)).bind fun t122 => (if t122 < 0 then (licitref27_Ends.l1 k x0 x1 x5 x6 (wrap64 (x7 - 1))) else (if x5.length < 17592186044416 then (licitref27_Ends.l0 k x0 x1 (x5 ++ [x7]) (wrap64 (x6 + 1))) else (none)))) else (none)) else (none)) else (none)
end
def licitref27_Ends.f (k : Nat) (l0 : List (S41)) (l1 : List (S41)) : Option (List Int) := licitref27_Ends.l0 k l0 l1 (([] : List Int)) 0
theorem licitref27_Ends.mono_l : ∀ k, (∀ y0 y1 y2 y3, LeO (licitref27_Ends.l0 k y0 y1 y2 y3) (licitref27_Ends.l0 (k + 1) y0 y1 y2 y3)) ∧ (∀ y0 y1 y2 y3 y4, LeO (licitref27_Ends.l1 k y0 y1 y2 y3 y4) (licitref27_Ends.l1 (k + 1) y0 y1 y2 y3 y4))
  | 0 => ⟨fun _ _ _ _ r h => by simp [licitref27_Ends.l0] at h, fun _ _ _ _ _ r h => by simp [licitref27_Ends.l1] at h⟩
  | k + 1 => by
    obtain ⟨ih0, ih1⟩ := licitref27_Ends.mono_l k
    refine ⟨?_, ?_⟩
    · intro y0 y1 y2 y3
      unfold licitref27_Ends.l0
      repeat' first
      | (with_reducible exact ih0 _ _ _ _)
      | (with_reducible exact ih1 _ _ _ _ _)
      | (with_reducible exact licitref27_First.mono _ _ _)
      | (with_reducible exact LeO.refl _)
      | (with_reducible exact LeO.none _)
      | (with_reducible refine LeO.ite ?_ ?_)
      | (with_reducible refine LeO.bind ?_ (fun _ => ?_))
      | exact ih0 _ _ _ _
      | exact ih1 _ _ _ _ _
      | exact licitref27_First.mono _ _ _
      | exact LeO.none _
      | refine LeO.ite ?_ ?_
      | refine LeO.bind ?_ (fun _ => ?_)
    · intro y0 y1 y2 y3 y4
      unfold licitref27_Ends.l1
      repeat' first
      | (with_reducible exact ih0 _ _ _ _)
      | (with_reducible exact ih1 _ _ _ _ _)
      | (with_reducible exact licitref27_First.mono _ _ _)
      | (with_reducible exact LeO.refl _)
      | (with_reducible exact LeO.none _)
      | (with_reducible refine LeO.ite ?_ ?_)
      | (with_reducible refine LeO.bind ?_ (fun _ => ?_))
      | exact ih0 _ _ _ _
      | exact ih1 _ _ _ _ _
      | exact licitref27_First.mono _ _ _
      | exact LeO.none _
      | refine LeO.ite ?_ ?_
      | refine LeO.bind ?_ (fun _ => ?_)
theorem licitref27_Ends.mono : ∀ a0 a1 k, LeO (licitref27_Ends.f k a0 a1) (licitref27_Ends.f (k + 1) a0 a1) := by
  intro a0 a1 k
  obtain ⟨ih0, ih1⟩ := licitref27_Ends.mono_l k
  unfold licitref27_Ends.f
  repeat' first
      | (with_reducible exact ih0 _ _ _ _)
      | (with_reducible exact ih1 _ _ _ _ _)
      | (with_reducible exact licitref27_First.mono _ _ _)
      | (with_reducible exact LeO.refl _)
      | (with_reducible exact LeO.none _)
      | (with_reducible refine LeO.ite ?_ ?_)
      | (with_reducible refine LeO.bind ?_ (fun _ => ?_))
      | exact ih0 _ _ _ _
      | exact ih1 _ _ _ _ _
      | exact licitref27_First.mono _ _ _
      | exact LeO.none _
      | refine LeO.ite ?_ ?_
      | refine LeO.bind ?_ (fun _ => ?_)
set_option maxHeartbeats 8000000 in
set_option maxRecDepth 100000 in
theorem licitref27_Ends.calls (k : Nat) (A0 : Option Addr) (c0 : Nat) (l0 : List (S41)) (A1 : Option Addr) (c1 : Nat) (l1 : List (S41)) (r : List Int) (w : World) (hr0 : Kd.C k41 w A0 l0.length l0) (hc0 : l0.length ≤ c0) (hr1 : Kd.C k41 w A1 l1.length l1) (hc1 : l1.length ≤ c1) (h : licitref27_Ends.f k l0 l1 = some r) :
    Calls Try.prog 22 #[.slice A0 l0.length c0, .slice A1 l1.length c1] w fun e w' => ∃ v0_ : Value, e = .returned (v0_) ∧ Kd.R (Kd.int .i64) 3 w' w.heap.size (fun _ => True) v0_ r ∧ Below w.heap.size w w' := by
  have HR0 := Aside0.mk hr0
  have HC0 := Aside0.mk hc0
  clear hr0 hc0
  have HR1 := Aside0.mk hr1
  have HC1 := Aside0.mk hc1
  clear hr1 hc1
  have HB := Aside0.mk (Below.refl w.heap.size w)
  have H : (licitref27_Ends.l0 k l0 l1 (([] : List Int)) 0) = some r := h
  clear h
  obtain ⟨y115, hy115⟩ : ∃ y_ : List Int, y_ = (([] : List Int)) := ⟨_, rfl⟩
  replace H : (licitref27_Ends.l0 k l0 l1 y115 0) = some r := by first | (rw [hy115]; with_reducible exact H) | (have H2_ := (Option.bind_some _ _).symm.trans H; rw [hy115]; with_reducible exact H2_) | (have H2_ := (Option.bind_some _ _).symm.trans H; with_reducible exact H2_) | with_reducible exact H | (rw [hy115]; exact H) | exact H
  have Ny115 := Aside0.mk hy115
  clear hy115
  have H' := Aside0.mk H
  clear H
  go_enter Try.func22, Try.ntmps22
  go_wp2_with (first | ((with_reducible refine gate_dst (N := 8) rfl ?_); refine Kd.R_lit (Kd.int .i64) _ 3 ?hg (N := 8) ?hd (xs := ([] : List Int)) (inner := []) (ok := fun _ => True) (okp := fun _ => True) ?hr ?hp (fun _ hk => hk) trivial (Below.refl _ _) (Nat.le_refl _) (by simp) ?_; (case hd => rfl); (case hg => rfl); (case hr => first | (go_simp; done) | (go_simp; rfl)); (case hp => exact (Reps.none _ _)); intro v116 w3 ho4 hb hg_ hnew_; clear hg_ hnew_; (first | rw [← Ny115.out] at ho4 | (simp only [Int.reduceToNat] at ho4; rw [← Ny115.out] at ho4)); have n0_ := Aside0.mk (Kd.R_lower ho4 (below_size (by repeat (first | (with_reducible first | exact HB.out | apply below_alloc | apply pw_below_drewN | apply below_drew1) | exact HB.out)))); have n1_ := Aside0.mk (below_step (by repeat (first | (with_reducible first | exact HB.out | apply below_alloc | apply pw_below_drewN | apply below_drew1) | exact HB.out)) hb); clear HB; have HO117 := n0_; have HB := n1_; clear n0_ n1_; clear hb ho4))
  go_loopg [5, 6] k (fun kq v5 v6 w' => ∃ (x5_1 : List Int) (x6_1 : Int), v6 = .int .i64 x6_1 ∧ Aside0 (licitref27_Ends.l0 kq l0 l1 x5_1 x6_1 = some r) ∧ Aside0 (kq ≤ k) ∧ Aside0 (Kd.R (Kd.int .i64) 3 w' w.heap.size (fun _ => True) v5 x5_1) ∧ Aside0 (Below w.heap.size w w'))
  case atStart => exact ⟨(y115), (0), (by first | rfl | (simp; done) | (simp [*]; done)), H', ⟨Nat.le_refl _⟩, ⟨by (with_reducible repeat (first | apply Kd.R_alloc | apply Kd.R_drewN | apply Kd.R_drew)); exact HO117.out⟩, ⟨by repeat (first | (with_reducible first | exact HB.out | apply below_alloc | apply pw_below_drewN | apply below_drew1) | exact HB.out)⟩⟩
  case round =>
    clear H'
    try clear c1
    try clear c2
    try clear p2
    obtain ⟨x5_1, x6_1, rfl, HA, HK1, HO_5, HB⟩ := hrel
    cases gk with
    | zero => exact absurd HA.out (by simp [licitref27_Ends.l0])
    | succ k1 =>
      have H := HA.out
      clear HA
      simp only [licitref27_Ends.l0] at H
      by_cases c5 : x6_1 < (l1.length : Int)
      · rw [if_pos c5] at H
        have c5b0 : decide (x6_1 < (l1.length : Int)) = true := decide_eq_true c5
        clear c5
        have H' := Aside0.mk H
        clear H
        go_wp2
        go_loopg [7] k1 (fun kq v7 w' => ∃ (x7_2 : Int), v7 = .int .i64 x7_2 ∧ Aside0 (licitref27_Ends.l1 kq l0 l1 x5_1 x6_1 x7_2 = some r) ∧ Aside0 (kq ≤ k1) ∧ Aside0 (Kd.R (Kd.int .i64) 3 w' w.heap.size (fun _ => True) u5 x5_1) ∧ Aside0 (Below w.heap.size w w'))
        case atStart => exact ⟨(wrap64 (x6_1 + 1)), (by first | rfl | (simp; done) | (simp [*]; done)), H', ⟨Nat.le_refl _⟩, ⟨by (with_reducible repeat (first | apply Kd.R_alloc | apply Kd.R_drewN | apply Kd.R_drew)); exact HO_5.out⟩, ⟨by repeat (first | (with_reducible first | exact HB.out | apply below_alloc | apply pw_below_drewN | apply below_drew1) | exact HB.out)⟩⟩
        case round =>
          clear H'
          try clear c1
          try clear c2
          try clear p2
          try clear c5
          try clear c5b0
          try clear p2
          obtain ⟨x7_2, rfl, HA, HK2, HO_5, HB⟩ := hrel
          cases gk with
          | zero => exact absurd HA.out (by simp [licitref27_Ends.l1])
          | succ k2 =>
            have H := HA.out
            clear HA
            simp only [licitref27_Ends.l1] at H
            obtain ⟨ji6, hji6⟩ : ∃ j_ : Int, (wrap64 ((wrap64 (x6_1 + 1)) - x7_2)) = j_ := ⟨_, rfl⟩
            replace H : (if 0 ≤ (ji6) then (if (ji6) ≤ (wrap64 (x6_1 + 1)) then (if (wrap64 (x6_1 + 1)) ≤ (l1.length : Int) then ((licitref27_First.f k2 l0 ((l1.take ((wrap64 (x6_1 + 1)) : Int).toNat).drop ((ji6) : Int).toNat)).bind fun t122 => (if t122 < 0 then (licitref27_Ends.l1 k2 l0 l1 x5_1 x6_1 (wrap64 (x7_2 - 1))) else (if x5_1.length < 17592186044416 then (licitref27_Ends.l0 k2 l0 l1 (x5_1 ++ [x7_2]) (wrap64 (x6_1 + 1))) else (none)))) else (none)) else (none)) else (none)) = some r := by first | (rw [hji6] at H; exact H) | (simp only [hji6] at H ⊢; exact H)
            have hji6w : (IntKind.i64.wrap ((wrap64 (x6_1 + 1)) - x7_2)) = ji6 := (i64_w _).trans hji6
            by_cases c7 : 0 ≤ (ji6)
            · rw [if_pos c7] at H
              have c7b0 := eq_true c7
              have c7b1 : decide (0 ≤ (ji6)) = true := decide_eq_true c7
              clear c7
              by_cases c8 : (ji6) ≤ (wrap64 (x6_1 + 1))
              · rw [if_pos c8] at H
                have c8b0 := eq_true c8
                have c8b1 : decide ((ji6) ≤ (wrap64 (x6_1 + 1))) = true := decide_eq_true c8
                by_cases c9 : (wrap64 (x6_1 + 1)) ≤ (l1.length : Int)
                · rw [if_pos c9] at H
                  have c9b0 := eq_true c9
                  have c9b1 : decide ((wrap64 (x6_1 + 1)) ≤ (l1.length : Int)) = true := decide_eq_true c9
                  obtain ⟨y118, hy118⟩ : ∃ y_ : List (S41), y_ = ((l1.take ((wrap64 (x6_1 + 1)) : Int).toNat).drop ((ji6) : Int).toNat) := ⟨_, rfl⟩
                  replace H : ((licitref27_First.f k2 l0 y118).bind fun t122 => (if t122 < 0 then (licitref27_Ends.l1 k2 l0 l1 x5_1 x6_1 (wrap64 (x7_2 - 1))) else (if x5_1.length < 17592186044416 then (licitref27_Ends.l0 k2 l0 l1 (x5_1 ++ [x7_2]) (wrap64 (x6_1 + 1))) else (none)))) = some r := by first | (rw [hy118]; with_reducible exact H) | (have H2_ := (Option.bind_some _ _).symm.trans H; rw [hy118]; with_reducible exact H2_) | (have H2_ := (Option.bind_some _ _).symm.trans H; with_reducible exact H2_) | with_reducible exact H | (rw [hy118]; exact H) | exact H
                  have Ny118 := Aside0.mk hy118
                  clear hy118
                  replace H := Option.bind_eq_some_iff.mp H
                  obtain ⟨t122, A100, H⟩ := H
                  replace H : (if t122 < 0 then (licitref27_Ends.l1 k2 l0 l1 x5_1 x6_1 (wrap64 (x7_2 - 1))) else (if x5_1.length < 17592186044416 then (licitref27_Ends.l0 k2 l0 l1 (x5_1 ++ [x7_2]) (wrap64 (x6_1 + 1))) else (none))) = some r := H
                  have A10 := Aside0.mk A100
                  clear A100
                  by_cases c11 : t122 < 0
                  · rw [if_pos c11] at H
                    have c11b0 : decide (t122 < 0) = true := decide_eq_true c11
                    clear c11
                    have H' := Aside0.mk H
                    clear H
                    have q12 : ((wrap64 (x6_1 + 1)) : Int) ≤ ((l1.length : Int) : Int) := of_decide_eq_true (by first | (with_reducible assumption) | assumption)
                    obtain ⟨i012, hi012, _, hsz12, _⟩ := info_parts info41
                    have hroom12 : l1.length ≤ c1 := HC1.out
                    have hC12 : Kd.C k41 _ A1 l1.length l1 := HR1.out
                    have ql12 : ((ji6) : Int) ≤ ((wrap64 (x6_1 + 1)) : Int) := of_decide_eq_true (by first | (with_reducible assumption) | assumption)
                    have q012 : (0 : Int) ≤ ((ji6) : Int) := of_decide_eq_true (by first | (with_reducible assumption) | assumption)
                    have hcut12 := cut_mid (P := Try.prog) 22 41 .i64 .i64 Try.underlying22 hi012 2 hsz12 A1 l1.length c1 (ji6) (wrap64 (x6_1 + 1)) q012 ql12 q12 hroom12
                    have hr12 := Kd.C_mid (lo := ((ji6) : Int).toNat) (hi := ((wrap64 (x6_1 + 1)) : Int).toNat) (c := c1) hC12 (by omega) (by omega) hroom12
                    obtain ⟨A12, hA12⟩ : ∃ A1_, A1_ = (if c1 = ((ji6) : Int).toNat then A1 else (A1 : Option Addr).map (·.add (((ji6) : Int).toNat * 2))) := ⟨_, rfl⟩
                    obtain ⟨c12, hc12⟩ : ∃ c1_, c1_ = c1 - ((ji6) : Int).toNat := ⟨_, rfl⟩
                    have hy12 : y118.length = ((wrap64 (x6_1 + 1)) : Int).toNat - ((ji6) : Int).toNat := (by rw [Ny118.out, List.length_drop, List.length_take] <;> omega)
                    rw [show ((l1).take ((wrap64 (x6_1 + 1)) : Int).toNat).drop ((ji6) : Int).toNat = y118 from Ny118.out.symm] at hr12
                    replace hr12 : Kd.C k41 _ A12 y118.length y118 := (by rw [hA12]; exact hr12)
                    rw [← hy12, ← hA12, ← hc12] at hcut12
                    have HR121 := Aside0.mk hr12
                    have HC121 := Aside0.mk (show y118.length ≤ c12 from by rw [hy12, hc12]; exact Nat.sub_le_sub_right (Nat.le_trans (by omega) hroom12) _)
                    clear hr12 hC12 hroom12 hi012 hsz12 hc12
                    have KY12 := Aside0.mk hy12
                    have KA12 := Aside0.mk hA12
                    clear hy12 hA12
                    replace q12 := eq_true q12
                    go_wp2_with (first | ((with_reducible refine gate_callee (f := 24) rfl ?_); refine goesL_ (some 26) rfl rfl Try.func24 (by kernel_rfl) rfl #[.slice A0 l0.length c0, .slice A12 y118.length c12] rfl (by (try simp only [List.map_toArray, List.map_cons, List.map_nil]); first | done | rfl | (simp only [List.length_drop, List.length_take]; rfl)) ?_; (with_reducible refine (licitref27_First.calls k2 _ _ l0 _ _ y118 t122 _ ?side1 ?side2 ?side3 ?side4 A10.out).mono ?_); (case side1 => repeat (first | exact (Kd.C_below HR0.out HB.out) | (with_reducible refine Kd.C_alloc ?_ _) | (with_reducible refine Kd.C_drewN ?_ _) | (with_reducible refine Kd.C_drew ?_))); (case side2 => exact HC0.out); (case side3 => repeat (first | exact (Kd.C_below HR121.out HB.out) | (with_reducible refine Kd.C_alloc ?_ _) | (with_reducible refine Kd.C_drewN ?_ _) | (with_reducible refine Kd.C_drew ?_))); (case side4 => exact HC121.out); rintro e w' ⟨rfl, ⟨nd, rfl⟩⟩; refine ⟨_, rfl, ?_⟩))
                    go_roundg k2
                    case measure => have := HK1.out; have := HK2.out; omega
                    case rel => exact ⟨(wrap64 (x7_2 - 1)), (by first | rfl | (simp; done) | (simp [*]; done)), H', ⟨by have := HK1.out; have := HK2.out; omega⟩, ⟨by (with_reducible repeat (first | apply Kd.R_alloc | apply Kd.R_drewN | apply Kd.R_drew)); exact HO_5.out⟩, ⟨by repeat (first | (with_reducible first | exact HB.out | apply below_alloc | apply pw_below_drewN | apply below_drew1) | exact HB.out)⟩⟩
                  · rw [if_neg c11] at H
                    have c11b0 : decide (t122 < 0) = false := decide_eq_false c11
                    clear c11
                    by_cases c13 : x5_1.length < 17592186044416
                    · rw [if_pos c13] at H
                      have LMc13 := Aside0.mk c13
                      clear c13
                      obtain ⟨y123, hy123⟩ : ∃ y_ : List Int, y_ = (x5_1 ++ [x7_2]) := ⟨_, rfl⟩
                      replace H : (licitref27_Ends.l0 k2 l0 l1 y123 (wrap64 (x6_1 + 1))) = some r := by first | (rw [hy123]; with_reducible exact H) | (have H2_ := (Option.bind_some _ _).symm.trans H; rw [hy123]; with_reducible exact H2_) | (have H2_ := (Option.bind_some _ _).symm.trans H; with_reducible exact H2_) | with_reducible exact H | (rw [hy123]; exact H) | exact H
                      have Ny123 := Aside0.mk hy123
                      clear hy123
                      have H' := Aside0.mk H
                      clear H
                      have q14 : ((wrap64 (x6_1 + 1)) : Int) ≤ ((l1.length : Int) : Int) := of_decide_eq_true (by first | (with_reducible assumption) | assumption)
                      obtain ⟨i014, hi014, _, hsz14, _⟩ := info_parts info41
                      have hroom14 : l1.length ≤ c1 := HC1.out
                      have hC14 : Kd.C k41 _ A1 l1.length l1 := HR1.out
                      have ql14 : ((ji6) : Int) ≤ ((wrap64 (x6_1 + 1)) : Int) := of_decide_eq_true (by first | (with_reducible assumption) | assumption)
                      have q014 : (0 : Int) ≤ ((ji6) : Int) := of_decide_eq_true (by first | (with_reducible assumption) | assumption)
                      have hcut14 := cut_mid (P := Try.prog) 22 41 .i64 .i64 Try.underlying22 hi014 2 hsz14 A1 l1.length c1 (ji6) (wrap64 (x6_1 + 1)) q014 ql14 q14 hroom14
                      have hr14 := Kd.C_mid (lo := ((ji6) : Int).toNat) (hi := ((wrap64 (x6_1 + 1)) : Int).toNat) (c := c1) hC14 (by omega) (by omega) hroom14
                      obtain ⟨A14, hA14⟩ : ∃ A1_, A1_ = (if c1 = ((ji6) : Int).toNat then A1 else (A1 : Option Addr).map (·.add (((ji6) : Int).toNat * 2))) := ⟨_, rfl⟩
                      obtain ⟨c14, hc14⟩ : ∃ c1_, c1_ = c1 - ((ji6) : Int).toNat := ⟨_, rfl⟩
                      have hy14 : y118.length = ((wrap64 (x6_1 + 1)) : Int).toNat - ((ji6) : Int).toNat := (by rw [Ny118.out, List.length_drop, List.length_take] <;> omega)
                      rw [show ((l1).take ((wrap64 (x6_1 + 1)) : Int).toNat).drop ((ji6) : Int).toNat = y118 from Ny118.out.symm] at hr14
                      replace hr14 : Kd.C k41 _ A14 y118.length y118 := (by rw [hA14]; exact hr14)
                      rw [← hy14, ← hA14, ← hc14] at hcut14
                      have HR121 := Aside0.mk hr14
                      have HC121 := Aside0.mk (show y118.length ≤ c14 from by rw [hy14, hc14]; exact Nat.sub_le_sub_right (Nat.le_trans (by omega) hroom14) _)
                      clear hr14 hC14 hroom14 hi014 hsz14 hc14
                      have KY14 := Aside0.mk hy14
                      have KA14 := Aside0.mk hA14
                      clear hy14 hA14
                      replace q14 := eq_true q14
                      go_wp2_with (first | ((with_reducible refine gate_callee (f := 24) rfl ?_); refine goesL_ (some 26) rfl rfl Try.func24 (by kernel_rfl) rfl #[.slice A0 l0.length c0, .slice A14 y118.length c14] rfl (by (try simp only [List.map_toArray, List.map_cons, List.map_nil]); first | done | rfl | (simp only [List.length_drop, List.length_take]; rfl)) ?_; (with_reducible refine (licitref27_First.calls k2 _ _ l0 _ _ y118 t122 _ ?side1 ?side2 ?side3 ?side4 A10.out).mono ?_); (case side1 => repeat (first | exact (Kd.C_below HR0.out HB.out) | (with_reducible refine Kd.C_alloc ?_ _) | (with_reducible refine Kd.C_drewN ?_ _) | (with_reducible refine Kd.C_drew ?_))); (case side2 => exact HC0.out); (case side3 => repeat (first | exact (Kd.C_below HR121.out HB.out) | (with_reducible refine Kd.C_alloc ?_ _) | (with_reducible refine Kd.C_drewN ?_ _) | (with_reducible refine Kd.C_drew ?_))); (case side4 => exact HC121.out); rintro e w' ⟨rfl, ⟨nd, rfl⟩⟩; refine ⟨_, rfl, ?_⟩) | ((with_reducible refine gate_builtin (b := .append) (xs := #[.tmp 30, .tmp 32]) rfl ?_); at_builtin; refine Kd.R_append (Kd.int .i64) (w0 := w) w.heap.size rfl (.tmp 30) (.tmp 32) 35 3 (.int .i64 0) 8 rfl Try.underlying35 info3 rfl (by decide) (by omega) u5 x5_1 x7_2 [.int .i64 x7_2] (fun _ => True) (fun _ => False) rfl rfl ?aP (fun _ hk => hk.elim) ?aF ?aO ?aB ?aS ?aL ?_; (case aP => exact rfl); (case aB => exact (by repeat (first | (with_reducible first | exact HB.out | apply below_alloc | apply pw_below_drewN | apply below_drew1) | exact HB.out))); (case aF => exact (fun _ _ => trivial)); (case aO => exact (by (with_reducible repeat (first | apply Kd.R_alloc | apply Kd.R_drewN | apply Kd.R_drew)); exact HO_5.out)); (case aS => exact (below_size (by repeat (first | (with_reducible first | exact HB.out | apply below_alloc | apply pw_below_drewN | apply below_drew1) | exact HB.out)))); (case aL => have := LMc13.out; omega); intro v124 w15 ho hb hg hat; rw [← Ny123.out] at ho; have n0_ := Aside0.mk (hb); have n1_ := Aside0.mk (ho); clear HB; clear HO_5; have HB := n0_; have HO125 := n1_; clear n0_ n1_; clear ho hb hg hat))
                      go_roundg k2
                      case measure => have := HK1.out; have := HK2.out; omega
                      case rel => exact ⟨(y123), (wrap64 (x6_1 + 1)), (by first | rfl | (simp; done) | (simp [*]; done)), H', ⟨by have := HK1.out; have := HK2.out; omega⟩, ⟨by (with_reducible repeat (first | apply Kd.R_alloc | apply Kd.R_drewN | apply Kd.R_drew)); exact HO125.out⟩, ⟨by repeat (first | (with_reducible first | exact HB.out | apply below_alloc | apply pw_below_drewN | apply below_drew1) | exact HB.out)⟩⟩
                    · rw [if_neg c13] at H
                      exact absurd H (by simp)
                · rw [if_neg c9] at H
                  exact absurd H (by simp)
              · rw [if_neg c8] at H
                exact absurd H (by simp)
            · rw [if_neg c7] at H
              exact absurd H (by simp)
      · rw [if_neg c5] at H
        have c5b0 : decide (x6_1 < (l1.length : Int)) = false := decide_eq_false c5
        clear c5
        obtain rfl := Option.some.inj H
        go_wp2
        go_ret
        exact ⟨_, by first | rfl | (simp [errW_none, errW_some] <;> rfl) | (simp [*, errW_none, errW_some] <;> rfl), by (with_reducible repeat (first | apply Kd.R_alloc | apply Kd.R_drewN | apply Kd.R_drew)); exact HO_5.out, by repeat (first | (with_reducible first | exact HB.out | apply below_alloc | apply pw_below_drewN | apply below_drew1) | exact HB.out)⟩

end Go.Proofs.Ytbakoigejihnaaa.Ref

/- What the reference functions compute, said of the words alone: Ends, and the scan of Longest. -/
set_option linter.unusedSectionVars false
set_option linter.unusedVariables false
namespace Go.Proofs.Ytbakoigejihnaaa.Ref
open Go.RowKit Go.Proofs.YtbakoigejihnaaaW.PrintWords Go.Proofs.YtbakoigejihnaaaW.PrintLast Go.Proofs.YtbakoigejihnaaaW.PrintMore
open Sam (EndsAt Run countS firstS longS endsS nRuns pick bestS)

theorem longS_le {W P : List ByteArray} : ∀ n, longS W P n ≤ n
  | 0 => Nat.le_refl _
  | n + 1 => by
    simp only [longS]
    split
    · exact Nat.le_refl _
    · have := longS_le (W := W) (P := P) n; omega

section
variable {T L : List S41}

theorem ends_inner (hT : T.length ≤ 100000) (hL : L.length ≤ 100000) (i : Nat) (hi : i < L.length) (out : List Int) (hout : out.length = i) (r : List Int) :
    ∀ n, n ≤ i + 1 → Ev (fun k => licitref27_Ends.l0 k T L (out ++ [((longS (txt T) ((txt L).take (i + 1)) n : Nat) : Int)]) ((i + 1 : Nat) : Int)) r → Ev (fun k => licitref27_Ends.l1 k T L out (i : Nat) (n : Nat)) r
  | n, hn, hnext => by
    have e1 : wrap64 ((i : Int) + 1) = ((i + 1 : Nat) : Int) := by rw [w64 (by omega) (by omega)]; omega
    have e2 : wrap64 (((i + 1 : Nat) : Int) - (n : Int)) = ((i + 1 - n : Nat) : Int) := by rw [w64 (by omega) (by omega)]; omega
    have hf := first_ev (T := T) (L := (L.take (i + 1)).drop (i + 1 - n)) hT (by simp; omega)
    rw [txt_drop, txt_take] at hf
    have hl : ((txt L).take (i + 1)).length = i + 1 := by rw [List.length_take, txt_length]; omega
    refine Ev.step ?_
    simp only [licitref27_Ends.l1, e1, e2, Int.toNat_natCast]
    refine Ev.congr (g := fun k => (licitref27_First.f k T ((L.take (i + 1)).drop (i + 1 - n))).bind fun t122 => (if t122 < 0 then (licitref27_Ends.l1 k T L out (i : Nat) (wrap64 ((n : Int) - 1))) else (if out.length < 17592186044416 then (licitref27_Ends.l0 k T L (out ++ [(n : Int)]) ((i + 1 : Nat) : Int)) else (none)))) ?_ (fun k => by rw [if_pos (by omega), if_pos (by omega), if_pos (by omega)])
    refine Ev.bind hf ?_
    by_cases hr : firstS (txt T) (((txt L).take (i + 1)).drop (i + 1 - n)) < 0
    · have hnr := Sam.firstS_neg.1 hr
      cases n with
      | zero =>
        refine (hnr ?_).elim
        rw [Nat.sub_zero, List.drop_of_length_le (by omega)]
        exact Sam.run_nil _
      | succ n =>
        have e3 : wrap64 (((n + 1 : Nat) : Int) - 1) = (n : Int) := by rw [w64 (by omega) (by omega)]; omega
        have hs : longS (txt T) ((txt L).take (i + 1)) (n + 1) = longS (txt T) ((txt L).take (i + 1)) n := by
          simp only [longS]; rw [hl, if_neg hnr]
        rw [hs] at hnext
        have ih := ends_inner hT hL i hi out hout r n (by omega) hnext
        exact ih.congr fun k => by rw [if_pos hr, e3]
    · have hrun : Run (txt T) (((txt L).take (i + 1)).drop (i + 1 - n)) := by
        by_cases g : Run (txt T) (((txt L).take (i + 1)).drop (i + 1 - n))
        · exact g
        · exact (hr (Sam.firstS_neg.2 g)).elim
      have hs : longS (txt T) ((txt L).take (i + 1)) n = n := by
        cases n with
        | zero => rfl
        | succ n => simp only [longS]; rw [hl, if_pos hrun]
      rw [hs] at hnext
      exact hnext.congr fun k => by rw [if_neg hr, if_pos (by omega)]

theorem ends_outer (hT : T.length ≤ 100000) (hL : L.length ≤ 100000) : ∀ (m i : Nat), i + m = L.length → Ev (fun k => licitref27_Ends.l0 k T L (((endsS (txt T) (txt L)).map fun x => ((x : Nat) : Int)).take i) (i : Nat)) ((endsS (txt T) (txt L)).map fun x => ((x : Nat) : Int))
  | 0, i, hi => by
    have hl : ((endsS (txt T) (txt L)).map fun x => ((x : Nat) : Int)).length = L.length := by simp [endsS, txt_length]
    refine Ev.step ((Ev.const _).congr fun k => ?_)
    simp only [licitref27_Ends.l0]
    rw [if_neg (by omega), List.take_of_length_le (by omega)]
  | m + 1, i, hi => by
    have hl : ((endsS (txt T) (txt L)).map fun x => ((x : Nat) : Int)).length = L.length := by simp [endsS, txt_length]
    have e1 : wrap64 ((i : Int) + 1) = ((i + 1 : Nat) : Int) := by rw [w64 (by omega) (by omega)]; omega
    have ih := ends_outer hT hL m (i + 1) (by omega)
    refine Ev.step ?_
    simp only [licitref27_Ends.l0, e1]
    refine Ev.congr (g := fun k => licitref27_Ends.l1 k T L (((endsS (txt T) (txt L)).map fun x => ((x : Nat) : Int)).take i) (i : Nat) ((i + 1 : Nat) : Int)) ?_ (fun k => if_pos (by omega))
    refine ends_inner hT hL i (by omega) _ (by rw [List.length_take]; omega) _ (i + 1) (Nat.le_refl _) ?_
    rw [List.take_succ_eq_append_getElem (by omega)] at ih
    have : ((endsS (txt T) (txt L)).map fun x => ((x : Nat) : Int))[i]'(by omega) = ((longS (txt T) ((txt L).take (i + 1)) (i + 1) : Nat) : Int) := by simp [endsS]
    rw [this] at ih
    exact ih

theorem ends_ev (hT : T.length ≤ 100000) (hL : L.length ≤ 100000) : Ev (fun k => licitref27_Ends.f k T L) ((endsS (txt T) (txt L)).map fun x => ((x : Nat) : Int)) :=
  ends_outer hT hL L.length 0 (by omega)
end

/-! the scan -/
def valAt (W L : List ByteArray) (m : Nat) : Nat × Int × Int :=
  let d := (endsS W L).getD m 0
  if d = 0 then (0, 0, 0) else (d, firstS W ((L.take (m + 1)).drop (m + 1 - d)), (m : Int) + 1 - d)

theorem valAt_len (W L : List ByteArray) (m : Nat) : (valAt W L m).1 = (endsS W L).getD m 0 := by
  unfold valAt
  simp only
  split
  · rename_i h; rw [h]
  · rfl

theorem ends_drop (W L : List ByteArray) {i : Nat} (hi : i < L.length) : (endsS W L).drop i = (endsS W L).getD i 0 :: (endsS W L).drop (i + 1) := by
  have hl : i < (endsS W L).length := by simpa [endsS] using hi
  rw [List.drop_eq_getElem_cons hl]
  simp [List.getD, hl]

theorem ends_getD_le (W L : List ByteArray) (i : Nat) : (endsS W L).getD i 0 ≤ i + 1 := by
  unfold endsS
  rw [List.getD_eq_getElem?_getD, List.getElem?_map]
  by_cases hi : i < L.length
  · rw [List.getElem?_range hi]; exact longS_le _
  · rw [List.getElem?_eq_none (by simpa using hi)]; simp

theorem pick_new (W L : List ByteArray) {i : Nat} (hi : i < L.length) (x : Nat × Int × Int) (h : x.1 < (endsS W L).getD i 0 ∨ (x = (0, 0, 0) ∧ (endsS W L).getD i 0 = 0)) :
    pick W L ((endsS W L).drop i) i x = pick W L ((endsS W L).drop (i + 1)) (i + 1) (valAt W L i) := by
  rw [ends_drop W L hi]
  simp only [pick]
  congr 1
  rcases h with h | ⟨h1, h2⟩
  · rw [if_pos h]; unfold valAt; simp only; rw [if_neg (by omega)]
  · rw [h1, h2]; unfold valAt; simp only; rw [h2]; simp
theorem pick_old (W L : List ByteArray) {i : Nat} (hi : i < L.length) (x : Nat × Int × Int) (h : ¬ x.1 < (endsS W L).getD i 0) :
    pick W L ((endsS W L).drop i) i x = pick W L ((endsS W L).drop (i + 1)) (i + 1) x := by
  rw [ends_drop W L hi]
  simp only [pick]
  rw [if_neg h]
end Go.Proofs.Ytbakoigejihnaaa.Ref

/- The law AutomatonAsks, walked. -/
set_option linter.unusedSectionVars false
set_option linter.unusedSimpArgs false
set_option linter.unusedVariables false
namespace Go.Proofs.Ytbakoigejihnaaa.Law
open Go.RowKit Go.AutoMap Go.Proofs.YtbakoigejihnaaaW.PrintWords Go.Proofs.YtbakoigejihnaaaW.PrintLast Go.Proofs.YtbakoigejihnaaaW.PrintMore
open Sam (Auto Inv countS firstS nRuns endsS bestS Run)
open Ref (S41 k41 txt)
open Wk (Built)

noncomputable def few24 (l : List S41) : Bool := Classical.choose (Ref.few24_ev l)
theorem few24_len {l : List S41} (h : few24 l = true) : l.length ≤ 40 := (Classical.choose_spec (Ref.few24_ev l)).1 h

section
variable (w : World) (A0 A1 : Option Addr) (c0 c1 : Nat) (T L : List S41) (h0 : Kd.C k41 w A0 T.length T) (hc0 : T.length ≤ c0)
include h0 hc0
theorem few24_calls : Calls Try.prog 17 #[.slice A0 T.length c0] w fun e w' => e = .returned (.bool (few24 T)) ∧ Drawn0 w w' := by
  obtain ⟨k, hk⟩ := (Classical.choose_spec (Ref.few24_ev T)).2.get
  exact Ref.licitref24_Few.calls k A0 c0 T _ w h0 hc0 hk
variable (h1 : Kd.C k41 w A1 L.length L) (hc1 : L.length ≤ c1) (hT : T.length ≤ 100000) (hL : L.length ≤ 100000)
include h1 hc1 hT hL
theorem ref_first : Calls Try.prog 24 #[.slice A0 T.length c0, .slice A1 L.length c1] w fun e w' => e = .returned (.int .i64 (firstS (txt T) (txt L))) ∧ Drawn0 w w' := by
  obtain ⟨k, hk⟩ := (Ref.first_ev (T := T) (L := L) hT hL).get
  exact Ref.licitref27_First.calls k A0 c0 T A1 c1 L _ w h0 hc0 h1 hc1 hk
theorem ref_count : Calls Try.prog 26 #[.slice A0 T.length c0, .slice A1 L.length c1] w fun e w' => e = .returned (.int .i64 ((countS (txt T) (txt L) : Nat) : Int)) ∧ Drawn0 w w' := by
  obtain ⟨k, hk⟩ := (Ref.count_ev (T := T) (L := L) hT hL).get
  exact Ref.licitref27_Count.calls k A0 c0 T A1 c1 L _ w h0 hc0 h1 hc1 hk
end

theorem run_first (W L : List ByteArray) : (decide (Run W L) == decide (0 ≤ firstS W L)) = true := by
  by_cases h : Run W L
  · have : ¬ firstS W L < 0 := fun k => Sam.firstS_neg.1 k h
    simp [h]; omega
  · have := Sam.firstS_neg.2 h
    simp [h]; omega

set_option maxHeartbeats 4000000 in
set_option maxRecDepth 100000 in
theorem asks_walk (w : World) (A0 A1 : Option Addr) (c0 c1 : Nat) (T L : List S41) (h0 : Kd.C k41 w A0 T.length T) (hc0 : T.length ≤ c0) (h1 : Kd.C k41 w A1 L.length L) (hc1 : L.length ≤ c1) : Calls Try.prog 5 #[.slice A0 T.length c0, .slice A1 L.length c1] w (Yes w) := by
  have HC0 := Aside0.mk h0
  have HC1 := Aside0.mk h1
  clear h0 h1
  have F0 := Aside0.mk (@few24_len T)
  have F1 := Aside0.mk (@few24_len L)
  go_enter Try.func5, Try.ntmps5
  go_wp2_with (go_at_call 10; refine (awake _).mono ?_; rintro e w1 ⟨rfl, hb1⟩)
  have HB1 := Aside0.mk hb1
  clear hb1
  have HF := Aside0.mk (few24_calls w1 A0 c0 T (Kd.C_below HC0.out HB1.out) hc0)
  generalize few24 T = b0 at HF F0
  cases b0 with
  | false =>
    go_wp2_with (go_at_call 17; with_reducible refine HF.out.mono ?_; rintro e w2 ⟨rfl, hd⟩)
    go_ret
    exact ⟨rfl, drawn0_below HB1.out hd⟩
  | true =>
    have hT := F0.out rfl
    go_wp2_with (go_at_call 17; with_reducible refine HF.out.mono ?_; rintro e w2 ⟨rfl, hd⟩)
    have HB2 : Aside0 (Below w.heap.size w w2) := ⟨drawn0_below HB1.out hd⟩
    clear hd HF HB1 F0
    have HF := Aside0.mk (few24_calls w2 A1 c1 L (Kd.C_below HC1.out HB2.out) hc1)
    generalize few24 L = b1 at HF F1
    cases b1 with
    | false =>
      refine HF.out.mono ?_
      rintro e w3 ⟨rfl, hd⟩
      go_wp2_with fail
      go_ret
      exact ⟨rfl, drawn0_below HB2.out hd⟩
    | true =>
      have hL := F1.out rfl
      refine HF.out.mono ?_
      rintro e w3 ⟨rfl, hd⟩
      have HB3 : Aside0 (Below w.heap.size w w3) := ⟨drawn0_below HB2.out hd⟩
      clear hd HF HB2 F1
      go_wp2_with fail
      refine (build A0 c0 T (Kd.C_below HC0.out HB3.out) (by omega)).mono ?_
      rintro e w4 ⟨ba, A, rfl, hm, hbt, hb4⟩
      have HM := Aside0.mk hm
      have HBt := Aside0.mk hbt
      have HB4 : Aside0 (Below w.heap.size w w4) := ⟨HB3.out.trans (hb4.mono HB3.out.size)⟩
      have hW : (txt T).length ≤ 8192 := by rw [Ref.txt_length]; omega
      clear hm hbt hb4
      go_wp2_with fail
      refine (has A1 c1 L (Kd.C_below HC1.out HB4.out) (by omega) HM.out HBt.out).mono ?_
      rintro e w5 ⟨rfl, hb5⟩
      have HM5 : Aside0 (AutoMem 53 56 w5 w3.heap.size ba A) := ⟨HM.out.below hb5⟩
      have HB5 : Aside0 (Below w.heap.size w w5) := ⟨HB4.out.trans (hb5.mono HB4.out.size)⟩
      clear hb5 HM HB4
      have HRF := fun w' (hb : Below w.heap.size w w') => ref_first w' A0 A1 c0 c1 T L (Kd.C_below HC0.out hb) hc0 (Kd.C_below HC1.out hb) hc1 (by omega) (by omega)
      have HRF := Aside0.mk HRF
      have HEq := run_first (txt T) (txt L)
      go_wp2_with (go_at_call 24; with_reducible refine (HRF.out _ HB5.out).mono ?_; rintro e w6 ⟨rfl, hd⟩)
      have HM6 : Aside0 (AutoMem 53 56 w6 w3.heap.size ba A) := by obtain ⟨q, rfl⟩ := hd; exact ⟨HM5.out.below (bdrew (Below.refl _ _) q)⟩
      have HB6 : Aside0 (Below w.heap.size w w6) := ⟨drawn0_below HB5.out hd⟩
      clear hd HM5 HB5
      refine (count A1 c1 L (Kd.C_below HC1.out HB6.out) (by omega) HM6.out HBt.out).mono ?_
      rintro e w7 ⟨rfl, hb7⟩
      have HM7 : Aside0 (AutoMem 53 56 w7 w3.heap.size ba A) := ⟨HM6.out.below hb7⟩
      have HB7 : Aside0 (Below w.heap.size w w7) := ⟨HB6.out.trans (hb7.mono HB6.out.size)⟩
      clear hb7 HM6 HB6
      have HRC := Aside0.mk (ref_count w7 A0 A1 c0 c1 T L (Kd.C_below HC0.out HB7.out) hc0 (Kd.C_below HC1.out HB7.out) hc1 (by omega) (by omega))
      go_wp2_with (go_at_call 26; with_reducible refine HRC.out.mono ?_; rintro e w8 ⟨rfl, hd⟩)
      have HM8 : Aside0 (AutoMem 53 56 w8 w3.heap.size ba A) := by obtain ⟨q, rfl⟩ := hd; exact ⟨HM7.out.below (bdrew (Below.refl _ _) q)⟩
      have HB8 : Aside0 (Below w.heap.size w w8) := ⟨drawn0_below HB7.out hd⟩
      clear hd HM7 HB7 HRC
      refine (first A1 c1 L (Kd.C_below HC1.out HB8.out) (by omega) HM8.out HBt.out hW).mono ?_
      rintro e w9 ⟨rfl, hb9⟩
      have HB9 : Aside0 (Below w.heap.size w w9) := ⟨HB8.out.trans (hb9.mono HB8.out.size)⟩
      clear hb9 HM8 HB8
      go_wp2_with (go_at_call 24; with_reducible refine (HRF.out _ HB9.out).mono ?_; rintro e w10 ⟨rfl, hd⟩)
      go_ret
      exact ⟨by simp, drawn0_below HB9.out hd⟩
end Go.Proofs.Ytbakoigejihnaaa.Law

/- The reference function Longest, walked. -/
set_option linter.unusedSectionVars false
set_option linter.unusedSimpArgs false
set_option linter.unusedVariables false
namespace Go.Proofs.Ytbakoigejihnaaa.Law
open Go.RowKit Go.AutoMap Go.Proofs.YtbakoigejihnaaaW.PrintWords Go.Proofs.YtbakoigejihnaaaW.PrintLast Go.Proofs.YtbakoigejihnaaaW.PrintMore
open Sam (Auto Inv countS firstS nRuns endsS bestS Run pick)
open Ref (S41 k41 txt valAt)

theorem ref_Rint {w : World} {base : Nat} {ok : Nat → Prop} {v : Value} {l : List Int} (h : Kd.R (Kd.int .i64) 3 w base ok v l) : ∃ A1 c1, v = .slice A1 l.length c1 ∧ l.length ≤ c1 ∧ Kd.C (Kd.int .i64) w A1 l.length l := by
  obtain ⟨A1, c, h1, hle, h2⟩ := h.2.reads
  exact ⟨A1, c, h1, hle, h2.imp_ (Below.refl _ _) (fun p c hc => (Kd.int .i64).K_of_M hc)⟩

theorem ref_ends (w : World) (A0 A1 : Option Addr) (c0 c1 : Nat) (T L : List S41) (h0 : Kd.C k41 w A0 T.length T) (hc0 : T.length ≤ c0) (h1 : Kd.C k41 w A1 L.length L) (hc1 : L.length ≤ c1) (hT : T.length ≤ 100000) (hL : L.length ≤ 100000) :
    Calls Try.prog 22 #[.slice A0 T.length c0, .slice A1 L.length c1] w fun e w' => ∃ A2 c2, e = .returned (.slice A2 L.length c2) ∧ L.length ≤ c2 ∧ Kd.C (Kd.int .i64) w' A2 L.length ((endsS (txt T) (txt L)).map fun x => ((x : Nat) : Int)) ∧ Below w.heap.size w w' := by
  obtain ⟨k, hk⟩ := (Ref.ends_ev (T := T) (L := L) hT hL).get
  refine (Ref.licitref27_Ends.calls k A0 c0 T A1 c1 L _ w h0 hc0 h1 hc1 hk).mono ?_
  rintro e w' ⟨v, rfl, hv, hb⟩
  obtain ⟨A2, c2, rfl, hle, hC⟩ := ref_Rint hv
  have hl : ((endsS (txt T) (txt L)).map fun x => ((x : Nat) : Int)).length = L.length := by simp [endsS, Ref.txt_length]
  rw [hl] at hle hC
  exact ⟨A2, c2, by rw [hl], hle, hC, hb⟩

theorem rd_map (E : List Nat) (i : Nat) : rd (E.map fun x => ((x : Nat) : Int)) (i : Nat) = ((E.getD i 0 : Nat) : Int) := by
  unfold rd
  rw [Int.toNat_natCast, List.getD_eq_getElem?_getD, List.getD_eq_getElem?_getD, List.getElem?_map]
  cases E[i]? <;> simp

theorem cut_words (A1 : Option Addr) (c1 : Nat) (L : List S41) (hc1 : L.length ≤ c1) (lo hi : Int) (a b : Nat) (ha : lo = (a : Nat)) (hb : hi = (b : Nat)) (h1 : a ≤ b) (h2 : b ≤ L.length) :
    ∃ A' c' y, y = (L.take b).drop a ∧ (∀ W : World, (Instr.slice 22 (.slice A1 L.length c1) (some (.int .i64 lo)) (some (.int .i64 hi)) none).run Try.prog W = .ok (.slice A' y.length c') W) ∧ y.length ≤ c' ∧ ∀ W, Kd.C k41 W A1 L.length L → Kd.C k41 W A' y.length y := by
  subst ha hb
  obtain ⟨i0, hi0, _, hsz, _⟩ := info_parts Ref.info41
  have hcut := cut_mid (P := Try.prog) 22 41 .i64 .i64 Try.underlying22 hi0 2 hsz A1 L.length c1 (a : Nat) (b : Nat) (by omega) (by omega) (by omega) hc1
  simp only [Int.toNat_natCast] at hcut
  have hl : ((L.take b).drop a).length = b - a := by simp; omega
  refine ⟨(if c1 = a then A1 else A1.map (·.add (a * 2))), c1 - a, (L.take b).drop a, rfl, fun W => ?_, by omega, fun W hC => Kd.C_mid hC h1 h2 hc1⟩
  rw [hcut W, hl]

set_option maxHeartbeats 4000000 in
set_option maxRecDepth 100000 in
theorem ref_longest (w : World) (A0 A1 : Option Addr) (c0 c1 : Nat) (T L : List S41) (h0 : Kd.C k41 w A0 T.length T) (hc0 : T.length ≤ c0) (h1 : Kd.C k41 w A1 L.length L) (hc1 : L.length ≤ c1) (hT : T.length ≤ 100000) (hL : L.length ≤ 100000) :
    Calls Try.prog 19 #[.slice A0 T.length c0, .slice A1 L.length c1] w fun e w' => e = .returned (.tuple #[.int .i64 (bestS (txt T) (txt L)).2.1, .int .i64 (bestS (txt T) (txt L)).2.2, .int .i64 ((bestS (txt T) (txt L)).1 : Nat)]) ∧ Below w.heap.size w w' := by
  have HC0 := Aside0.mk h0
  have HC1 := Aside0.mk h1
  have HE := Aside0.mk (ref_ends w A0 A1 c0 c1 T L h0 hc0 h1 hc1 hT hL)
  have HLE := Aside0.mk (Ref.ends_getD_le (txt T) (txt L))
  clear h0 h1
  go_enter Try.func19, Try.ntmps19
  go_wp2_with (go_at_call 22; refine HE.out.mono ?_; rintro e w1 ⟨A2, c2, rfl, hc2, hC2, hb1⟩)
  have HC2 := Aside0.mk hC2
  have HB1 := Aside0.mk hb1
  clear hC2 hb1 HE
  go_loopg [8, 9] L.length (fun kq v8 v9 w' => ∃ (b : Int) (i m : Nat), v8 = .int .i64 b ∧ v9 = .int .i64 i ∧ w' = w1.drewN m ∧ Aside0 (i + kq = L.length) ∧ Aside0 ((b = -1 ∧ i = 0 ∧ bestS (txt T) (txt L) = pick (txt T) (txt L) ((endsS (txt T) (txt L)).drop i) i (0, 0, 0)) ∨ ∃ p : Nat, b = p ∧ p < i ∧ bestS (txt T) (txt L) = pick (txt T) (txt L) ((endsS (txt T) (txt L)).drop i) i (valAt (txt T) (txt L) p)))
  case atStart => exact ⟨-1, 0, 0, rfl, rfl, rfl, ⟨by omega⟩, ⟨.inl ⟨rfl, rfl, rfl⟩⟩⟩
  case round =>
    obtain ⟨b, i, m, rfl, rfl, rfl, HK, HP⟩ := hrel
    by_cases hi : i < L.length
    · have hib : decide ((i : Int) < (L.length : Int)) = true := by simpa using hi
      obtain ⟨adi, e1, hx1⟩ := Kd.at_int HC2.out (i : Int) (by omega) (by omega)
      subst e1
      rw [rd_map, Int.toNat_natCast] at hx1
      rcases HP.out with ⟨rfl, rfl, hbst⟩ | ⟨p, rfl, hp, hbst⟩
      · have HBs := Aside0.mk hbst
        clear hbst HP
        go_wp2_with fail
        go_quiet (fail)
        go_wp2_with fail
        go_roundg (gk - 1)
        case measure => have := HK.out; omega
        case rel => exact ⟨0, 1, m + nq, rfl, rfl, rfl, ⟨by have := HK.out; omega⟩, ⟨.inr ⟨0, rfl, by omega, by rw [HBs.out]; exact Ref.pick_new _ _ (by rw [Ref.txt_length]; exact hi) _ (by
          rcases Nat.eq_zero_or_pos ((endsS (txt T) (txt L)).getD 0 0) with g | g
          · exact .inr ⟨rfl, g⟩
          · exact .inl g)⟩⟩⟩
      · have HBs := Aside0.mk hbst
        clear hbst HP
        obtain ⟨adp, e2, hx2⟩ := Kd.at_int HC2.out (p : Int) (by omega) (by omega)
        injection e2 with e2
        subst e2
        rw [rd_map, Int.toNat_natCast] at hx2
        have hle1 := HLE.out i
        have hle2 := HLE.out p
        have hp0 : decide ((p : Int) < 0) = false := by simp
        have hpL : p < L.length := by omega
        have hpb : decide ((p : Int) < (L.length : Int)) = true := by simpa using hpL
        have HVp : Aside0 ((valAt (txt T) (txt L) p).1 = (endsS (txt T) (txt L)).getD p 0) := ⟨Ref.valAt_len _ _ _⟩
        have HNew : Aside0 ((endsS (txt T) (txt L)).getD p 0 < (endsS (txt T) (txt L)).getD i 0 → pick (txt T) (txt L) ((endsS (txt T) (txt L)).drop i) i (valAt (txt T) (txt L) p) = pick (txt T) (txt L) ((endsS (txt T) (txt L)).drop (i + 1)) (i + 1) (valAt (txt T) (txt L) i)) := ⟨fun hg => Ref.pick_new _ _ (by rw [Ref.txt_length]; exact hi) _ (.inl (by rw [Ref.valAt_len]; exact hg))⟩
        have HOld : Aside0 (¬ (endsS (txt T) (txt L)).getD p 0 < (endsS (txt T) (txt L)).getD i 0 → pick (txt T) (txt L) ((endsS (txt T) (txt L)).drop i) i (valAt (txt T) (txt L) p) = pick (txt T) (txt L) ((endsS (txt T) (txt L)).drop (i + 1)) (i + 1) (valAt (txt T) (txt L) p)) := ⟨fun hg => Ref.pick_old _ _ (by rw [Ref.txt_length]; exact hi) _ (by rw [Ref.valAt_len]; exact hg)⟩
        generalize (endsS (txt T) (txt L)).getD p 0 = dp at hx2 hle2 HVp HNew HOld
        generalize (endsS (txt T) (txt L)).getD i 0 = di at hx1 hle1 HNew HOld
        by_cases hgt : dp < di
        · have hg1 : decide ((dp : Int) < (di : Int)) = true := by simpa using hgt
          have hg2 : decide (dp < di) = true := by simpa using hgt
          have HG := Aside0.mk hgt
          clear hgt hle1 hle2
          go_wp2_with fail
          go_quiet (fail)
          go_wp2_with fail
          go_roundg (gk - 1)
          case measure => have := HK.out; omega
          case rel => exact ⟨i, i + 1, m + nq, rfl, by go_num, rfl, ⟨by have := HK.out; omega⟩, ⟨.inr ⟨i, rfl, by omega, by rw [HBs.out]; exact HNew.out HG.out⟩⟩⟩
        · have hg1 : decide ((dp : Int) < (di : Int)) = false := by simpa using hgt
          have hg2 : decide (dp < di) = false := by simpa using hgt
          have HG := Aside0.mk hgt
          clear hgt hle1 hle2
          go_wp2_with fail
          go_quiet (fail)
          go_wp2_with fail
          go_roundg (gk - 1)
          case measure => have := HK.out; omega
          case rel => exact ⟨p, i + 1, m + nq, rfl, by go_num, rfl, ⟨by have := HK.out; omega⟩, ⟨.inr ⟨p, rfl, by omega, by rw [HBs.out]; exact HOld.out HG.out⟩⟩⟩
    · have hib : decide ((i : Int) < (L.length : Int)) = false := by simpa using hi
      have him : (endsS (txt T) (txt L)).drop i = [] := by
        apply List.drop_of_length_le
        simp [endsS, Ref.txt_length]; omega
      rw [him] at HP
      simp only [pick] at HP
      rcases HP.out with ⟨rfl, rfl, hbst⟩ | ⟨p, rfl, hp, hbst⟩
      · have HBs := Aside0.mk hbst
        clear hbst HP
        go_wp2_with fail
        go_ret3
        exact ⟨by rw [HBs.out]; rfl, bdrew HB1.out _⟩
      · have HBs := Aside0.mk hbst
        clear hbst HP
        have hpL : p < L.length := by have := HK.out; omega
        obtain ⟨adp, e2, hx2⟩ := Kd.at_int HC2.out (p : Int) (by omega) (by omega)
        subst e2
        rw [rd_map, Int.toNat_natCast] at hx2
        have hle2 := HLE.out p
        have HV : Aside0 (valAt (txt T) (txt L) p = if (endsS (txt T) (txt L)).getD p 0 = 0 then (0, 0, 0) else ((endsS (txt T) (txt L)).getD p 0, firstS (txt T) (((txt L).take (p + 1)).drop (p + 1 - (endsS (txt T) (txt L)).getD p 0)), (p : Int) + 1 - (endsS (txt T) (txt L)).getD p 0)) := ⟨rfl⟩
        generalize (endsS (txt T) (txt L)).getD p 0 = d at hx2 hle2 HV
        by_cases hd0 : d = 0
        · subst hd0
          go_wp2_with fail
          go_ret3
          exact ⟨by rw [HBs.out, HV.out]; rfl, bdrew HB1.out _⟩
        · have hdb : ((d : Int) == 0) = false := by simpa using hd0
          rw [if_neg hd0] at HV
          have hb1 : Below w.heap.size w (w1.drewN m) := bdrew HB1.out m
          have HBm := Aside0.mk hb1
          clear hb1
          obtain ⟨A4, c4, y, hy, hcut, hyc, hyC⟩ := cut_words A1 c1 L hc1 ((p : Int) + 1 - (d : Int)) ((p : Int) + 1) (p + 1 - d) (p + 1) (by omega) (by omega) (by omega) (by omega)
          have HY := Aside0.mk hy
          have HYC := Aside0.mk hyC
          have hyl : y.length ≤ 100000 := by rw [hy]; simp; omega
          have HRF := Aside0.mk (fun W (hb : Below w.heap.size w W) => ref_first W A0 A4 c0 c4 T y (Kd.C_below HC0.out hb) hc0 (HYC.out W (Kd.C_below HC1.out hb)) hyc hT hyl)
          clear hy hyC
          go_wp2_with fail
          go_quiet ((go_at_call 24; refine (HRF.out _ ?side).mono ?_; (case side => first | exact HBm.out | exact bdrew HBm.out _ | exact bdrew (bdrew HBm.out _) _ | exact bdrew HB1.out _); rintro e w' ⟨rfl, ⟨nd, rfl⟩⟩; first | exact ⟨rfl, _, World.drewN_drewN _ _ _⟩ | exact ⟨rfl, _, Eq.trans (World.drewN_drewN _ _ _) (congrArg (World.drewN _) (Nat.add_assoc _ _ _))⟩))
          go_wp2_with fail
          go_ret3
          refine ⟨?_, bdrew HBm.out _⟩
          rw [HBs.out, HV.out, HY.out, Ref.txt_drop, Ref.txt_take]
          rfl
end Go.Proofs.Ytbakoigejihnaaa.Law

/- The law AutomatonLongest, walked. -/
set_option linter.unusedSectionVars false
set_option linter.unusedSimpArgs false
set_option linter.unusedVariables false
namespace Go.Proofs.Ytbakoigejihnaaa.Law
open Go.RowKit Go.AutoMap Go.Proofs.YtbakoigejihnaaaW.PrintWords Go.Proofs.YtbakoigejihnaaaW.PrintLast Go.Proofs.YtbakoigejihnaaaW.PrintMore
open Sam (Auto Inv countS firstS nRuns endsS bestS Run)
open Ref (S41 k41 txt)
open Wk (Built EndsIs)

theorem equal_loop (l : List Int) (hl : l.length ≤ 100000) : ∀ (m i : Nat), i + m = l.length → Ref.Ev (fun k => Ref.slices_Equal_int_int.l0 k l l (l.length : Int) (i : Nat)) true
  | 0, i, hi => Ref.Ev.step ((Ref.Ev.const true).congr fun k => by simp only [Ref.slices_Equal_int_int.l0]; rw [if_neg (by omega)])
  | m + 1, i, hi => by
    have e1 : wrap64 ((i : Int) + 1) = ((i + 1 : Nat) : Int) := by rw [Ref.w64 (by omega) (by omega)]; omega
    refine Ref.Ev.step ((equal_loop l hl m (i + 1) (by omega)).congr fun k => ?_)
    simp only [Ref.slices_Equal_int_int.l0, e1]
    rw [if_pos (by omega), if_pos (by omega), if_pos (by omega), if_pos (by omega)]
    simp

theorem equal_self (l : List Int) (hl : l.length ≤ 100000) : ∃ k, Ref.slices_Equal_int_int.f k l l = some true :=
  (Ref.Ev.congr (equal_loop l hl l.length 0 (by omega)) (fun k => by unfold Ref.slices_Equal_int_int.f; rw [if_pos rfl]; rfl)).get

theorem equal_calls (w : World) (A0 A1 : Option Addr) (c0 c1 n : Nat) (l : List Int) (hn : l.length = n) (h0 : Kd.C (Kd.int .i64) w A0 n l) (hc0 : n ≤ c0) (h1 : Kd.C (Kd.int .i64) w A1 n l) (hc1 : n ≤ c1) (hl : n ≤ 100000) :
    Calls Try.prog 20 #[.slice A0 n c0, .slice A1 n c1] w fun e w' => e = .returned (.bool true) ∧ Drawn0 w w' := by
  subst hn
  obtain ⟨k, hk⟩ := equal_self l hl
  exact Ref.slices_Equal_int_int.calls k A0 c0 l A1 c1 l true w h0 hc0 h1 hc1 hk

set_option maxHeartbeats 4000000 in
set_option maxRecDepth 100000 in
theorem longest_walk (w : World) (A0 A1 : Option Addr) (c0 c1 : Nat) (T L : List S41) (h0 : Kd.C k41 w A0 T.length T) (hc0 : T.length ≤ c0) (h1 : Kd.C k41 w A1 L.length L) (hc1 : L.length ≤ c1) : Calls Try.prog 4 #[.slice A0 T.length c0, .slice A1 L.length c1] w (Yes w) := by
  have HC0 := Aside0.mk h0
  have HC1 := Aside0.mk h1
  clear h0 h1
  have F0 := Aside0.mk (@few24_len T)
  have F1 := Aside0.mk (@few24_len L)
  go_enter Try.func4, Try.ntmps4
  go_wp2_with (go_at_call 10; refine (awake _).mono ?_; rintro e w1 ⟨rfl, hb1⟩)
  have HB1 := Aside0.mk hb1
  clear hb1
  have HF := Aside0.mk (few24_calls w1 A0 c0 T (Kd.C_below HC0.out HB1.out) hc0)
  generalize few24 T = b0 at HF F0
  cases b0 with
  | false =>
    go_wp2_with (go_at_call 17; with_reducible refine HF.out.mono ?_; rintro e w2 ⟨rfl, hd⟩)
    go_ret
    exact ⟨rfl, drawn0_below HB1.out hd⟩
  | true =>
    have hT := F0.out rfl
    go_wp2_with (go_at_call 17; with_reducible refine HF.out.mono ?_; rintro e w2 ⟨rfl, hd⟩)
    have HB2 : Aside0 (Below w.heap.size w w2) := ⟨drawn0_below HB1.out hd⟩
    clear hd HF HB1 F0
    have HF := Aside0.mk (few24_calls w2 A1 c1 L (Kd.C_below HC1.out HB2.out) hc1)
    generalize few24 L = b1 at HF F1
    cases b1 with
    | false =>
      refine HF.out.mono ?_
      rintro e w3 ⟨rfl, hd⟩
      go_wp2_with fail
      go_ret
      exact ⟨rfl, drawn0_below HB2.out hd⟩
    | true =>
      have hL := F1.out rfl
      refine HF.out.mono ?_
      rintro e w3 ⟨rfl, hd⟩
      have HB3 : Aside0 (Below w.heap.size w w3) := ⟨drawn0_below HB2.out hd⟩
      clear hd HF HB2 F1
      go_wp2_with fail
      refine (build A0 c0 T (Kd.C_below HC0.out HB3.out) (by omega)).mono ?_
      rintro e w4 ⟨ba, A, rfl, hm, hbt, hb4⟩
      have HM := Aside0.mk hm
      have HBt := Aside0.mk hbt
      have HB4 : Aside0 (Below w.heap.size w w4) := ⟨HB3.out.trans (hb4.mono HB3.out.size)⟩
      have hW : (txt T).length ≤ 8192 := by rw [Ref.txt_length]; omega
      clear hm hbt hb4
      go_wp2_with fail
      refine (longest A1 c1 L (Kd.C_below HC1.out HB4.out) (by omega) HM.out HBt.out hW).mono ?_
      rintro e w5 ⟨rfl, hb5⟩
      have HM5 : Aside0 (AutoMem 53 56 w5 w3.heap.size ba A) := ⟨HM.out.below hb5⟩
      have HB5 : Aside0 (Below w.heap.size w w5) := ⟨HB4.out.trans (hb5.mono HB4.out.size)⟩
      clear hb5 HM HB4
      go_wp2_with fail
      refine (ref_longest w5 A0 A1 c0 c1 T L (Kd.C_below HC0.out HB5.out) hc0 (Kd.C_below HC1.out HB5.out) hc1 (by omega) (by omega)).mono ?_
      rintro e w6 ⟨rfl, hb6⟩
      have HM6 : Aside0 (AutoMem 53 56 w6 w3.heap.size ba A) := ⟨HM5.out.below hb6⟩
      have HB6 : Aside0 (Below w.heap.size w w6) := ⟨HB5.out.trans (hb6.mono HB5.out.size)⟩
      clear hb6 HM5 HB5
      generalize bestS (txt T) (txt L) = best
      go_wp2_with fail
      refine (ends A1 c1 L (Kd.C_below HC1.out HB6.out) (by omega) HM6.out HBt.out hW).mono ?_
      rintro e w7 ⟨v, rfl, hv, hb7⟩
      have hle : (endsS (txt T) (txt L)).length = L.length := by simp [endsS, Ref.txt_length]
      obtain ⟨A2, rfl, hC2⟩ := ends_reads hv hle (by omega)
      have HC2 := Aside0.mk hC2
      have HB7 : Aside0 (Below w.heap.size w w7) := ⟨HB6.out.trans (hb7.mono HB6.out.size)⟩
      clear hb7 hv hC2 HB6 HM6
      go_wp2_with fail
      refine (ref_ends w7 A0 A1 c0 c1 T L (Kd.C_below HC0.out HB7.out) hc0 (Kd.C_below HC1.out HB7.out) hc1 (by omega) (by omega)).mono ?_
      rintro e w8 ⟨A3, c3, rfl, hc3, hC3, hb8⟩
      have HC3 := Aside0.mk hC3
      have HC2' : Aside0 (Kd.C (Kd.int .i64) w8 A2 L.length ((endsS (txt T) (txt L)).map fun x => ((x : Nat) : Int))) := ⟨Kd.C_below HC2.out hb8⟩
      have HB8 : Aside0 (Below w.heap.size w w8) := ⟨HB7.out.trans (hb8.mono HB7.out.size)⟩
      clear hb8 hC3 HB7 HC2
      go_wp2_with fail
      refine (equal_calls w8 A2 A3 L.length c3 L.length _ (by simpa using hle) HC2'.out (Nat.le_refl _) HC3.out hc3 (by omega)).mono ?_
      rintro e w9 ⟨rfl, hd⟩
      go_wp2_with fail
      go_ret
      exact ⟨rfl, drawn0_below HB8.out hd⟩
end Go.Proofs.Ytbakoigejihnaaa.Law

/- Plain facts for the laws without the reference: counts of runs that are made longer, words that are not in the text. -/
set_option linter.unusedSectionVars false
set_option linter.unusedVariables false
namespace Sam
section
variable {α : Type} [DecidableEq α]
theorem countS_suffix {T L L' : List α} (h : L <:+ L') : countS T L' ≤ countS T L := by
  unfold countS
  apply List.countP_mono_left
  intro e _ he
  simp only [decide_eq_true_eq] at he ⊢
  exact he.mono h
theorem countS_snoc (T R : List α) (c : α) : countS T (R ++ [c]) ≤ countS T R := by
  have h1 : countS T (R ++ [c]) ≤ (List.range T.length).countP fun e => decide (EndsAt T R e) := by
    unfold countS
    rw [List.range_succ_eq_map, List.countP_cons, List.countP_map]
    rw [if_neg (by simpa using endsAt_snoc_zero)]
    apply List.countP_mono_left
    intro e _ he
    simp only [Function.comp, decide_eq_true_eq] at he ⊢
    exact (endsAt_snoc.1 he).1
  refine Nat.le_trans h1 ?_
  unfold countS
  rw [List.range_succ, List.countP_append]
  omega
theorem countS_nil (T : List α) : countS T [] = T.length + 1 := by
  unfold countS
  rw [List.countP_eq_length.2]
  · simp
  · intro e he
    simp only [List.mem_range] at he
    simpa [endsAt_nil] using (by omega : e ≤ T.length)
theorem firstS_nil (T : List α) : firstS T [] = 0 := by
  rw [firstS_of (e := 0) ((endsAt_nil T 0).2 (Nat.zero_le _)) (fun e' _ => Nat.zero_le _)]; rfl
theorem Run.last_mem {T R : List α} {c : α} (h : Run T (R ++ [c])) : c ∈ T := by
  obtain ⟨e, he⟩ := h
  cases e with
  | zero => exact (endsAt_snoc_zero he).elim
  | succ e => exact List.mem_of_getElem? (endsAt_snoc.1 he).2
theorem Run.count_pos {T R : List α} (h : Run T R) : 1 ≤ countS T R := by
  obtain ⟨e, he⟩ := h
  unfold countS
  have : 0 < (List.range (T.length + 1)).countP fun e => decide (EndsAt T R e) := List.countP_pos_iff.2 ⟨e, by have := he.le; simp; omega, by simpa using he⟩
  omega
theorem countS_le (T L : List α) : countS T L ≤ T.length + 1 := by
  unfold countS
  have := List.countP_le_length (l := List.range (T.length + 1)) (p := fun e => decide (EndsAt T L e))
  simpa using this
/-- a cut of the text is a run, and its first place is no later -/
theorem cut_first {T : List α} {a b : Nat} (h1 : a ≤ b) (h2 : b ≤ T.length) : Run T ((T.take b).drop a) ∧ ∃ at_ : Nat, firstS T ((T.take b).drop a) = at_ ∧ at_ ≤ a ∧ EndsAt T ((T.take b).drop a) (at_ + (b - a)) := by
  have he : EndsAt T ((T.take b).drop a) b := endsAt_cut h2
  have hl : ((T.take b).drop a).length = b - a := by simp; omega
  refine ⟨⟨b, he⟩, ?_⟩
  obtain ⟨e, g1, g2, g3⟩ := Run.first ⟨b, he⟩
  have := g1.len
  have := g2 b he
  rw [hl] at g3
  refine ⟨e - (b - a), by rw [g3]; omega, by omega, ?_⟩
  rwa [show e - (b - a) + (b - a) = e by omega]
end
end Sam
namespace Go.Proofs.Ytbakoigejihnaaa.Law
open Go.RowKit Go.Proofs.YtbakoigejihnaaaW.PrintWords Go.Proofs.YtbakoigejihnaaaW.PrintLast Go.Proofs.YtbakoigejihnaaaW.PrintMore
open Ref (S41 k41 txt)

theorem few24_loop_small {T : List S41} (hT : T.length ≤ 100000) : ∀ (j i : Nat), i + j = T.length → ∀ k, Ref.licitref24_Few.l0 k T (i : Nat) = some true → ∀ p, i ≤ p → p < T.length → (Ref.rd_T41 T (p : Nat)).f0.size ≤ 40
  | 0, i, hi => by intro k _ p hp hpl; omega
  | j + 1, i, hi => by
    intro k hk p hp hpl
    have e2 : wrap64 ((i : Int) + 1) = ((i + 1 : Nat) : Int) := by rw [Ref.w64 (by omega) (by omega)]; omega
    cases k with
    | zero => simp [Ref.licitref24_Few.l0] at hk
    | succ k =>
      simp only [Ref.licitref24_Few.l0, e2] at hk
      rw [if_pos (by omega), if_pos (by omega)] at hk
      by_cases hs : (((Ref.rd_T41 T (i : Nat)).f0).size : Int) > 40
      · rw [if_pos hs] at hk; simp at hk
      · rw [if_neg hs] at hk
        by_cases e : p = i
        · subst e; omega
        · exact few24_loop_small hT j (i + 1) (by omega) k hk p (by omega) hpl

theorem few24_small {l : List S41} (h : few24 l = true) : ∀ x, x ∈ txt l → x.size ≤ 40 := by
  have hlen := few24_len h
  obtain ⟨k, hk⟩ := (Classical.choose_spec (Ref.few24_ev l)).2.get
  have hk' : Ref.licitref24_Few.f k l = some true := by rw [hk]; exact congrArg some h
  unfold Ref.licitref24_Few.f at hk'
  rw [if_neg (by omega)] at hk'
  intro x hx
  obtain ⟨y, hy, rfl⟩ := List.mem_map.1 hx
  obtain ⟨p, hp, rfl⟩ := List.getElem_of_mem hy
  have := few24_loop_small (by omega) l.length 0 (by omega) k hk' p (Nat.zero_le _) hp
  have e : Ref.rd_T41 l (p : Nat) = l[p] := by unfold Ref.rd_T41; simp [List.getD, hp]
  rwa [e] at this
end Go.Proofs.Ytbakoigejihnaaa.Law

/- Plain facts: the longest run is a run of both texts, at both places, and its length does not hang on which is which. -/
set_option linter.unusedSectionVars false
set_option linter.unusedVariables false
namespace Go.Proofs.Ytbakoigejihnaaa.Ref
open Sam (EndsAt Run countS firstS longS endsS nRuns pick bestS)

theorem longS_spec {W P : List ByteArray} : ∀ n, n ≤ P.length → Run W (P.drop (P.length - longS W P n)) ∧ ∀ j, longS W P n < j → j ≤ n → ¬ Run W (P.drop (P.length - j))
  | 0, _ => ⟨by simp only [longS, Nat.sub_zero, List.drop_length]; exact Sam.run_nil _, fun j h1 h2 => by omega⟩
  | n + 1, hn => by
    simp only [longS]
    by_cases h : Run W (P.drop (P.length - (n + 1)))
    · rw [if_pos h]; exact ⟨h, fun j h1 h2 => by omega⟩
    · rw [if_neg h]
      obtain ⟨h1, h2⟩ := longS_spec (W := W) (P := P) n (by omega)
      refine ⟨h1, fun j g1 g2 => ?_⟩
      by_cases e : j = n + 1
      · subst e; exact h
      · exact h2 j g1 (by omega)

section
variable (W L : List ByteArray)

/-- what stands at a place of the row of ends -/
def endAt (i : Nat) : Nat := (endsS W L).getD i 0
theorem endAt_eq {i : Nat} (hi : i < L.length) : endAt W L i = longS W (L.take (i + 1)) (i + 1) := by
  unfold endAt endsS
  rw [List.getD_eq_getElem?_getD, List.getElem?_map, List.getElem?_range hi]; rfl
theorem endAt_le (i : Nat) : endAt W L i ≤ i + 1 := ends_getD_le W L i
theorem endAt_run {i : Nat} (hi : i < L.length) : Run W ((L.take (i + 1)).drop (i + 1 - endAt W L i)) := by
  have hl : (L.take (i + 1)).length = i + 1 := by simp; omega
  have := (longS_spec (W := W) (P := L.take (i + 1)) (i + 1) (by omega)).1
  rw [hl, ← endAt_eq W L hi] at this; exact this
theorem endAt_max {i : Nat} (hi : i < L.length) {j : Nat} (h1 : endAt W L i < j) (h2 : j ≤ i + 1) : ¬ Run W ((L.take (i + 1)).drop (i + 1 - j)) := by
  have hl : (L.take (i + 1)).length = i + 1 := by simp; omega
  have := (longS_spec (W := W) (P := L.take (i + 1)) (i + 1) (by omega)).2 j (by rw [← endAt_eq W L hi]; exact h1) h2
  rwa [hl] at this
theorem endAt_of {i : Nat} (hi : i < L.length) {r : List ByteArray} (h1 : r <:+ L.take (i + 1)) (h2 : Run W r) : r.length ≤ endAt W L i := by
  have hl : (L.take (i + 1)).length = i + 1 := by simp; omega
  have hr := List.suffix_iff_eq_drop.1 h1
  rw [hl] at hr
  have hle := h1.length_le
  rcases Nat.lt_or_ge (endAt W L i) r.length with g | g
  · rw [hr] at h2
    exact (endAt_max W L hi g (by omega) h2).elim
  · exact g
theorem endAt_step {i : Nat} (hi : i + 1 < L.length) : endAt W L (i + 1) ≤ endAt W L i + 1 := by
  have hrun := endAt_run W L hi
  have hle := endAt_le W L (i + 1)
  rcases Nat.eq_zero_or_pos (endAt W L (i + 1)) with g | g
  · omega
  · rw [List.take_succ_eq_append_getElem hi, List.drop_append_of_le_length (by simp; omega)] at hrun
    have h2 := hrun.of_snoc
    have h3 := endAt_of W L (i := i) (by omega) (List.drop_suffix _ _) h2
    rw [List.length_drop, List.length_take, Nat.min_eq_left (by omega)] at h3
    omega

theorem best_from : ∀ (m i p : Nat), i + m = L.length → p < i → (∀ q, q < i → endAt W L q ≤ endAt W L p) → ∃ p', p' < L.length ∧ pick W L ((endsS W L).drop i) i (valAt W L p) = valAt W L p' ∧ ∀ q, q < L.length → endAt W L q ≤ endAt W L p'
  | 0, i, p, hi, hp, hq => by
    refine ⟨p, by omega, ?_, fun q hql => hq q (by omega)⟩
    rw [List.drop_of_length_le (by simp [endsS]; omega)]; rfl
  | m + 1, i, p, hi, hp, hq => by
    by_cases hg : endAt W L p < endAt W L i
    · rw [pick_new W L (by omega) _ (.inl (by rw [valAt_len]; exact hg))]
      refine best_from m (i + 1) i (by omega) (by omega) (fun q hqi => ?_)
      by_cases e : q = i
      · subst e; exact Nat.le_refl _
      · have := hq q (by omega); omega
    · rw [pick_old W L (by omega) _ (by rw [valAt_len]; exact hg)]
      refine best_from m (i + 1) p (by omega) (by omega) (fun q hqi => ?_)
      by_cases e : q = i
      · subst e; omega
      · exact hq q (by omega)

theorem best_at (hL : 0 < L.length) : ∃ p, p < L.length ∧ bestS W L = valAt W L p ∧ ∀ q, q < L.length → endAt W L q ≤ endAt W L p := by
  have h0 : bestS W L = pick W L ((endsS W L).drop (0 + 1)) (0 + 1) (valAt W L 0) := by
    have := pick_new W L (i := 0) hL (0, 0, 0) (by
      rcases Nat.eq_zero_or_pos ((endsS W L).getD 0 0) with g | g
      · exact .inr ⟨rfl, g⟩
      · exact .inl g)
    rw [← this]; rfl
  rw [h0]
  exact best_from W L (L.length - 1) 1 0 (by omega) (by omega) (fun q hq => by
    obtain rfl : q = 0 := by omega
    exact Nat.le_refl _)

/-- the longest run: its length is the greatest of all that are runs of both -/
structure Best (n : Nat) (x y : Int) : Prop where
  len : ∀ r, Run W r → Run L r → r.length ≤ n
  ends : ∀ q, q < L.length → endAt W L q ≤ n
  top : 0 < L.length → ∃ p, p < L.length ∧ endAt W L p = n
  place : ∃ a b : Nat, x = a ∧ y = b ∧ a + n ≤ W.length ∧ b + n ≤ L.length ∧ ∀ k, k < n → W[a + k]? = L[b + k]?
  run : ∃ r, Run W r ∧ Run L r ∧ r.length = n

theorem best_best : Best W L (bestS W L).1 (bestS W L).2.1 (bestS W L).2.2 := by
  rcases Nat.eq_zero_or_pos L.length with h0 | h0
  · have hL : L = [] := List.eq_nil_of_length_eq_zero h0
    subst hL
    have hb : bestS W [] = (0, 0, 0) := rfl
    rw [hb]
    exact ⟨fun r _ h => by have := h.len; simpa using this, fun q hq => by simp at hq, fun h => by simp at h, ⟨0, 0, rfl, rfl, by simp, by simp, fun k hk => by simp at hk⟩, ⟨[], Sam.run_nil _, Sam.run_nil _, rfl⟩⟩
  · obtain ⟨p, hp, hb, hmax⟩ := best_at W L h0
    have hl : (L.take (p + 1)).length = p + 1 := by simp; omega
    have hrun := endAt_run W L hp
    have hle := endAt_le W L p
    have hv : bestS W L = if endAt W L p = 0 then (0, 0, 0) else (endAt W L p, firstS W ((L.take (p + 1)).drop (p + 1 - endAt W L p)), (p : Int) + 1 - endAt W L p) := hb
    have hn : (bestS W L).1 = endAt W L p := by rw [hb]; exact valAt_len W L p
    rw [hn]
    refine ⟨?_, hmax, fun _ => ⟨p, hp, rfl⟩, ?_, ?_⟩
    · intro r h1 h2
      rcases Nat.eq_zero_or_pos r.length with g | g
      · omega
      · obtain ⟨e, he⟩ := h2
        have h3 := he.len
        have h4 := he.le
        have := endAt_of W L (i := e - 1) (by omega) (by rw [show e - 1 + 1 = e by omega]; exact he.2) h1
        have := hmax (e - 1) (by omega)
        omega
    · rw [hv]
      by_cases hz : endAt W L p = 0
      · rw [if_pos hz, hz]; exact ⟨0, 0, rfl, rfl, by simp, by simp, fun k hk => by omega⟩
      · rw [if_neg hz]
        obtain ⟨e, g1, g2, g3⟩ := hrun.first
        have hlr : ((L.take (p + 1)).drop (p + 1 - endAt W L p)).length = endAt W L p := by rw [List.length_drop, hl]; omega
        have h5 := g1.len
        have h6 := g1.le
        rw [hlr] at g3 h5
        refine ⟨e - endAt W L p, p + 1 - endAt W L p, by simp only; rw [g3]; omega, by simp only; omega, by omega, by omega, fun k hk => ?_⟩
        have g1' : EndsAt W ((L.take (p + 1)).drop (p + 1 - endAt W L p)) ((e - endAt W L p) + ((L.take (p + 1)).drop (p + 1 - endAt W L p)).length) := by rw [hlr, Nat.sub_add_cancel h5]; exact g1
        have := (endsAt_iff (by rw [hlr]; omega)).1 g1' k (by rw [hlr]; exact hk)
        rw [this, List.getElem?_drop, List.getElem?_take, if_pos (by omega)]
    · refine ⟨_, hrun, ⟨p + 1, Sam.endsAt_cut (by omega)⟩, ?_⟩
      rw [List.length_drop, hl]; omega

theorem best_same : (bestS W L).1 = (bestS L W).1 := by
  have h1 := best_best W L
  have h2 := best_best L W
  obtain ⟨r1, a1, a2, a3⟩ := h1.run
  obtain ⟨r2, b1, b2, b3⟩ := h2.run
  have := h1.len r2 b2 b1
  have := h2.len r1 a2 a1
  omega
end
end Go.Proofs.Ytbakoigejihnaaa.Ref

/- slices.Max over whole numbers, walked. -/
set_option linter.unusedSectionVars false
set_option linter.unusedSimpArgs false
set_option linter.unusedVariables false
namespace Go.Proofs.Ytbakoigejihnaaa.Law
open Go.RowKit Go.AutoMap Go.Proofs.YtbakoigejihnaaaW.PrintWords Go.Proofs.YtbakoigejihnaaaW.PrintLast Go.Proofs.YtbakoigejihnaaaW.PrintMore
open Sam (endsS)
attribute [local go_sem] max2_int min2_int max_two min_two max_three min_three max_four min_four   -- for this text's walks alone

set_option maxHeartbeats 1000000 in
theorem max_calls (w : World) (A0 : Option Addr) (n c : Nat) (E : List Nat) (hC : Kd.C (Kd.int .i64) w A0 n (E.map fun x => ((x : Nat) : Int))) (hE : E.length = n) (h0 : 0 < n) (hn : n ≤ 100000) (t : Nat) (hall : ∀ q, q < n → E.getD q 0 ≤ t) (hsome : ∃ p, p < n ∧ E.getD p 0 = t) (ht : t ≤ 100000) :
    Calls Try.prog 29 #[.slice A0 n c] w fun e w' => e = .returned (.int .i64 (t : Nat)) ∧ Below w.heap.size w w' := by
  have HC := Aside0.mk hC
  have HA := Aside0.mk hall
  have HS := Aside0.mk hsome
  obtain ⟨ad, e0, hx0⟩ := Kd.at_int hC 0 (by omega) (by omega)
  subst e0
  rw [show (0 : Int) = ((0 : Nat) : Int) from rfl, rd_map] at hx0
  have hx0' : w.cell? ad = some (.int .i64 ((E.getD 0 0 : Nat) : Int)) := by
    have h : w.cell? (ad.add 0) = some (.int .i64 ((E.getD 0 0 : Nat) : Int)) := hx0
    rwa [show ad.add 0 = ad from by simp [Addr.add]] at h
  have hne : decide ((n : Int) < 1) = false := by simp; omega
  clear hC hall hsome hx0
  generalize hE0 : E.getD 0 0 = e00 at hx0'
  have HE0 := Aside0.mk hE0
  clear hE0
  go_enter Try.func29, Try.ntmps29
  go_wp2_with fail
  go_loopg [3, 4] n (fun kq v3 v4 w' => ∃ (m i k : Nat), v3 = .int .i64 m ∧ v4 = .int .i64 i ∧ w' = w.drewN k ∧ Aside0 (i + kq = n + 1) ∧ 1 ≤ i ∧ Aside0 (∀ q, q < i → q < n → E.getD q 0 ≤ m) ∧ Aside0 (∃ p, p < n ∧ E.getD p 0 = m))
  case atStart => exact ⟨e00, 1, 0, rfl, rfl, rfl, ⟨by omega⟩, Nat.le_refl _, ⟨fun q hq _ => by
    obtain rfl : q = 0 := by omega
    rw [HE0.out]; exact Nat.le_refl _⟩, ⟨⟨0, h0, HE0.out⟩⟩⟩
  case round =>
    obtain ⟨m, i, k, rfl, rfl, rfl, HK, hi1, HM, HP⟩ := hrel
    have hmt : m ≤ t := by
      obtain ⟨p, hp, hpm⟩ := HP.out
      rw [← hpm]; exact HA.out p hp
    by_cases hi : i < n
    · have hib : decide ((i : Int) < (n : Int)) = true := by simpa using hi
      obtain ⟨adi, e1, hx1⟩ := Kd.at_int HC.out (i : Int) (by omega) (by omega)
      injection e1 with e1
      subst e1
      rw [rd_map, Int.toNat_natCast] at hx1
      have hdi := HA.out i hi
      generalize hEi : E.getD i 0 = di at hx1 hdi
      have HEi := Aside0.mk hEi
      clear hEi
      by_cases hdm : di ≤ m
      · have hd1 : (di : Int) ≤ (m : Int) := by omega
        go_wp2_with fail
        go_roundg (gk - 1)
        case measure => have := HK.out; omega
        case rel =>
          refine ⟨m, i + 1, _, rfl, by go_num, rfl, ⟨by have := HK.out; omega⟩, by omega, ⟨fun q hq hqn => ?_⟩, ⟨?_⟩⟩
          · by_cases e : q = i
            · subst e; rw [HEi.out]; omega
            · have := HM.out q (by omega) hqn; omega
          · exact HP.out
      · have hd1 : (m : Int) < (di : Int) := by omega
        have hd2 : ¬ ((di : Int) ≤ (m : Int)) := by omega
        go_wp2_with fail
        go_roundg (gk - 1)
        case measure => have := HK.out; omega
        case rel =>
          refine ⟨di, i + 1, _, rfl, by go_num, rfl, ⟨by have := HK.out; omega⟩, by omega, ⟨fun q hq hqn => ?_⟩, ⟨?_⟩⟩
          · by_cases e : q = i
            · subst e; rw [HEi.out]; omega
            · have := HM.out q (by omega) hqn; omega
          · exact ⟨i, hi, HEi.out⟩
    · have hib : decide ((i : Int) < (n : Int)) = false := by simpa using hi
      have hmeq : m = t := by
        obtain ⟨p, hp, hpt⟩ := HS.out
        have := HM.out p (by omega) hp
        omega
      subst hmeq
      go_wp2_with fail
      go_ret
      exact ⟨rfl, bdrew (Below.refl _ _) _⟩
end Go.Proofs.Ytbakoigejihnaaa.Law

/- The law AutomatonCommon, walked. -/
set_option linter.unusedSectionVars false
set_option linter.unusedSimpArgs false
set_option linter.unusedVariables false
namespace Go.Proofs.Ytbakoigejihnaaa.Law
open Go.RowKit Go.AutoMap Go.Proofs.YtbakoigejihnaaaW.PrintWords Go.Proofs.YtbakoigejihnaaaW.PrintLast Go.Proofs.YtbakoigejihnaaaW.PrintMore
open Sam (Auto Inv countS firstS nRuns endsS bestS Run)
open Ref (S41 k41 txt endAt)
open Wk (Built EndsIs)

set_option maxHeartbeats 4000000 in
set_option maxRecDepth 100000 in
theorem common_walk (w : World) (A0 A1 : Option Addr) (c0 c1 : Nat) (T L : List S41) (h0 : Kd.C k41 w A0 T.length T) (hc0 : T.length ≤ c0) (h1 : Kd.C k41 w A1 L.length L) (hc1 : L.length ≤ c1) : Calls Try.prog 7 #[.slice A0 T.length c0, .slice A1 L.length c1] w (Yes w) := by
  have HC0 := Aside0.mk h0
  have HC1 := Aside0.mk h1
  clear h0 h1
  have F0 := Aside0.mk (@few24_len T)
  have F1 := Aside0.mk (@few24_len L)
  go_enter Try.func7, Try.ntmps7
  go_wp2_with (go_at_call 10; refine (awake _).mono ?_; rintro e w1 ⟨rfl, hb1⟩)
  have HB1 := Aside0.mk hb1
  clear hb1
  have HF := Aside0.mk (few24_calls w1 A0 c0 T (Kd.C_below HC0.out HB1.out) hc0)
  generalize few24 T = b0 at HF F0
  cases b0 with
  | false =>
    go_wp2_with (go_at_call 17; with_reducible refine HF.out.mono ?_; rintro e w2 ⟨rfl, hd⟩)
    go_ret
    exact ⟨rfl, drawn0_below HB1.out hd⟩
  | true =>
    have hT := F0.out rfl
    go_wp2_with (go_at_call 17; with_reducible refine HF.out.mono ?_; rintro e w2 ⟨rfl, hd⟩)
    have HB2 : Aside0 (Below w.heap.size w w2) := ⟨drawn0_below HB1.out hd⟩
    clear hd HF HB1 F0
    have HF := Aside0.mk (few24_calls w2 A1 c1 L (Kd.C_below HC1.out HB2.out) hc1)
    generalize few24 L = b1 at HF F1
    cases b1 with
    | false =>
      refine HF.out.mono ?_
      rintro e w3 ⟨rfl, hd⟩
      go_wp2_with fail
      go_ret
      exact ⟨rfl, drawn0_below HB2.out hd⟩
    | true =>
      have hL := F1.out rfl
      refine HF.out.mono ?_
      rintro e w3 ⟨rfl, hd⟩
      have HB3 : Aside0 (Below w.heap.size w w3) := ⟨drawn0_below HB2.out hd⟩
      have hW : (txt T).length ≤ 8192 := by rw [Ref.txt_length]; omega
      have hW2 : (txt L).length ≤ 8192 := by rw [Ref.txt_length]; omega
      clear hd HF HB2 F1
      go_wp2_with fail
      refine (build A0 c0 T (Kd.C_below HC0.out HB3.out) (by omega)).mono ?_
      rintro e w4 ⟨ba, A, rfl, hm, hbt, hb4⟩
      have HM := Aside0.mk hm
      have HBt := Aside0.mk hbt
      have HB4 : Aside0 (Below w.heap.size w w4) := ⟨HB3.out.trans (hb4.mono HB3.out.size)⟩
      clear hm hbt hb4
      go_wp2_with fail
      refine (build A1 c1 L (Kd.C_below HC1.out HB4.out) (by omega)).mono ?_
      rintro e w5 ⟨bb, B, rfl, hm, hbt, hb5⟩
      have HMb := Aside0.mk hm
      have HBtb := Aside0.mk hbt
      have HM5 : Aside0 (AutoMem 53 56 w5 w3.heap.size ba A) := ⟨HM.out.below hb5⟩
      have HB5 : Aside0 (Below w.heap.size w w5) := ⟨HB4.out.trans (hb5.mono HB4.out.size)⟩
      clear hm hbt hb5 HM
      obtain ⟨a, b, ha, hb, hab1, hab2, hab3⟩ := (Ref.best_best (txt T) (txt L)).place
      have HBest := Aside0.mk (Ref.best_best (txt T) (txt L))
      have hsame := Aside0.mk (Ref.best_same (txt T) (txt L))
      have hnL : (bestS (txt T) (txt L)).1 ≤ L.length := by rw [Ref.txt_length] at hab2; omega
      generalize hnn : (bestS (txt T) (txt L)).1 = n at hab1 hab2 hab3 HBest hsame hnL
      rw [Ref.txt_length] at hab1 hab2
      have Hn := Aside0.mk hnn
      have Ha := Aside0.mk ha
      have Hb := Aside0.mk hb
      have H3 := Aside0.mk hab3
      clear hnn ha hb hab3
      go_wp2_with fail
      refine (longest A1 c1 L (Kd.C_below HC1.out HB5.out) (by omega) HM5.out HBt.out hW).mono ?_
      rintro e w6 ⟨rfl, hb6⟩
      rw [Hn.out, Ha.out, Hb.out]
      have HM6 : Aside0 (AutoMem 53 56 w6 w3.heap.size ba A) := ⟨HM5.out.below hb6⟩
      have HMb6 : Aside0 (AutoMem 53 56 w6 w4.heap.size bb B) := ⟨HMb.out.below hb6⟩
      have HB6 : Aside0 (Below w.heap.size w w6) := ⟨HB5.out.trans (hb6.mono HB5.out.size)⟩
      clear hb6 HM5 HMb HB5 HB4
      go_wp2_with fail
      refine (longest A0 c0 T (Kd.C_below HC0.out HB6.out) (by omega) HMb6.out HBtb.out hW2).mono ?_
      rintro e w7 ⟨rfl, hb7⟩
      rw [← hsame.out]
      generalize (bestS (txt L) (txt T)).2.1 = o1
      generalize (bestS (txt L) (txt T)).2.2 = o2
      have HM7 : Aside0 (AutoMem 53 56 w7 w3.heap.size ba A) := ⟨HM6.out.below hb7⟩
      have HB7 : Aside0 (Below w.heap.size w w7) := ⟨HB6.out.trans (hb7.mono HB6.out.size)⟩
      clear hb7 HM6 HMb6 HB6 HBtb hsame
      go_wp2_with fail
      refine (ends A1 c1 L (Kd.C_below HC1.out HB7.out) (by omega) HM7.out HBt.out hW).mono ?_
      rintro e w8 ⟨v, rfl, hv, hb8⟩
      have hle : (endsS (txt T) (txt L)).length = L.length := by simp [endsS, Ref.txt_length]
      obtain ⟨A2, rfl, hC2⟩ := ends_reads hv hle (by omega)
      have HC2 := Aside0.mk hC2
      have HM8 : Aside0 (AutoMem 53 56 w8 w3.heap.size ba A) := ⟨HM7.out.below hb8⟩
      have HB8 : Aside0 (Below w.heap.size w w8) := ⟨HB7.out.trans (hb8.mono HB7.out.size)⟩
      have HLe := Aside0.mk hle
      clear hb8 hv hC2 HB7 HM7 hle
      have t1 : decide ((n : Int) < 0) = false := by simp
      have t2 : decide ((a : Int) < 0) = false := by simp
      have t3 : decide ((b : Int) < 0) = false := by simp
      have t4 : decide ((T.length : Int) < (a : Int) + (n : Int)) = false := by simp; omega
      have t5 : decide ((L.length : Int) < (b : Int) + (n : Int)) = false := by simp; omega
      have t4' : decide (T.length < a + n) = false := by simp; omega
      have t5' : decide (L.length < b + n) = false := by simp; omega
      go_wp2_with fail
      go_loopg [103] n (fun kq v103 w' => ∃ (k m : Nat), v103 = .int .i64 k ∧ w' = w8.drewN m ∧ Aside0 (k + kq = n))
      case atStart => exact ⟨0, 0, rfl, rfl, ⟨by omega⟩⟩
      case round =>
        obtain ⟨k, m, rfl, rfl, HK⟩ := hrel
        by_cases hk : k < n
        · have hkb : decide ((k : Int) < (n : Int)) = true := by simpa using hk
          have hkb2 : decide ((a : Int) + (k : Int) < (T.length : Int)) = true := by simp; omega
          have hkb3 : decide ((b : Int) + (k : Int) < (L.length : Int)) = true := by simp; omega
          obtain ⟨adT, e1, hx1, _⟩ := Ref.at_T41 (Kd.C_below HC0.out HB8.out) ((a + k : Nat) : Int) (by omega) (by omega)
          obtain ⟨adL, e2, hx2, _⟩ := Ref.at_T41 (Kd.C_below HC1.out HB8.out) ((b + k : Nat) : Int) (by omega) (by omega)
          subst e1 e2
          have hsm : (Ref.rd_T41 T ((a + k : Nat) : Int)).f0 = (Ref.rd_T41 L ((b + k : Nat) : Int)).f0 := by
            have h1 := Ref.txt_at T (i := a + k) (by omega)
            have h2 := Ref.txt_at L (i := b + k) (by omega)
            have h3 := H3.out k hk
            rw [h1, h2] at h3
            exact Option.some.inj h3
          rw [hsm] at hx1
          simp only [Int.toNat_natCast] at hx1 hx2
          generalize (Ref.rd_T41 L ((b + k : Nat) : Int)).f0 = s at hx1 hx2
          clear hsm
          go_wp2_with fail
          go_quiet (fail)
          go_wp2_with fail
          go_roundg (gk - 1)
          case measure => have := HK.out; omega
          case rel => exact ⟨k + 1, _, by go_num, rfl, ⟨by have := HK.out; omega⟩⟩
        · have hkb : decide ((k : Int) < (n : Int)) = false := by simpa using hk
          have HMm : Aside0 (AutoMem 53 56 (w8.drewN m) w3.heap.size ba A) := ⟨HM8.out.below (bdrew (Below.refl _ _) m)⟩
          have HBm : Aside0 (Below w8.heap.size w8 (w8.drewN m)) := ⟨bdrew (Below.refl _ _) m⟩
          clear HM8
          go_wp2_with fail
          go_loopg [124] L.length (fun kq v124 w' => ∃ (i : Nat), v124 = .int .i64 i ∧ Aside0 (i + kq = L.length) ∧ Aside0 (AutoMem 53 56 w' w3.heap.size ba A) ∧ Aside0 (Below w8.heap.size w8 w'))
          case atStart => exact ⟨0, rfl, ⟨by omega⟩, HMm, HBm⟩
          case round =>
            obtain ⟨i, rfl, HKi, HMi, HBi⟩ := hrel
            clear HMm HBm
            have HBw : Aside0 (Below w.heap.size w wr) := ⟨HB8.out.trans (HBi.out.mono HB8.out.size)⟩
            by_cases hi : i < L.length
            · have hib : decide ((i : Int) < (L.length : Int)) = true := by simpa using hi
              obtain ⟨adi, e1, hxi⟩ := Kd.at_int (Kd.C_below HC2.out HBi.out) (i : Int) (by omega) (by omega)
              subst e1
              rw [rd_map, Int.toNat_natCast] at hxi
              have hk1 : endAt (txt T) (txt L) i ≤ n := HBest.out.ends i (by rw [Ref.txt_length]; exact hi)
              have hk2 := Ref.endAt_le (txt T) (txt L) i
              have hrun := Aside0.mk (Ref.endAt_run (txt T) (txt L) (i := i) (by rw [Ref.txt_length]; exact hi))
              have hmax := Aside0.mk (@Ref.endAt_max (txt T) (txt L) i (by rw [Ref.txt_length]; exact hi))
              have hstep : Aside0 (∀ j, i = j + 1 → endAt (txt T) (txt L) i ≤ endAt (txt T) (txt L) j + 1) := ⟨fun j hj => by subst hj; exact Ref.endAt_step _ _ (by rw [Ref.txt_length]; exact hi)⟩
              change wr.cell? (adi.add i) = some (.int .i64 ((endAt (txt T) (txt L) i : Nat) : Int)) at hxi
              generalize hkk : endAt (txt T) (txt L) i = kk at hxi hk1 hk2 hrun hmax hstep
              clear hkk
              have s1 : decide ((kk : Int) < 0) = false := by simp
              have s2 : decide ((n : Int) < (kk : Int)) = false := by simp; omega
              have s3 : decide ((i : Int) + 1 < (kk : Int)) = false := by simp; omega
              have s2' : decide (n < kk) = false := by simp; omega
              have s3' : decide (i + 1 < kk) = false := by simp; omega
              by_cases hi0 : 0 < i
              · have v1 : decide (0 < (i : Int)) = true := by simpa using hi0
                obtain ⟨adj, e2, hxj⟩ := Kd.at_int (Kd.C_below HC2.out HBi.out) ((i - 1 : Nat) : Int) (by omega) (by omega)
                injection e2 with e2
                subst e2
                rw [rd_map, Int.toNat_natCast] at hxj
                change wr.cell? (adi.add (i - 1)) = some (.int .i64 ((endAt (txt T) (txt L) (i - 1) : Nat) : Int)) at hxj
                have hst := hstep.out (i - 1) (by omega)
                have hkp := Ref.endAt_le (txt T) (txt L) (i - 1)
                generalize endAt (txt T) (txt L) (i - 1) = kp at hxj hst hkp
                have s4 : decide ((kp : Int) + 1 < (kk : Int)) = false := by simp; omega
                have s4' : decide (kp + 1 < kk) = false := by simp; omega
                obtain ⟨A5, c5, y5, hy5, hcut5, hyc5, hC5⟩ := cut_words A1 c1 L hc1 ((i : Int) + 1 - (kk : Int)) ((i : Int) + 1) (i + 1 - kk) (i + 1) (by omega) (by omega) (by omega) (by omega)
                have HCy5 := Aside0.mk hC5
                have Hly5 : Aside0 (y5.length = kk) := ⟨by rw [hy5]; simp; omega⟩
                have hr5 : Aside0 (Run (txt T) (txt y5)) := ⟨by rw [hy5, Ref.txt_drop, Ref.txt_take]; exact hrun.out⟩
                clear hC5 hy5
                go_wp2_with fail
                refine (has A5 c5 y5 (HCy5.out _ (Kd.C_below HC1.out (HB8.out.trans (HBi.out.mono HB8.out.size)))) (by rw [Hly5.out]; omega) HMi.out HBt.out).mono ?_
                rintro e wh ⟨rfl, hb⟩
                rw [decide_eq_true hr5.out]
                have HMh : Aside0 (AutoMem 53 56 wh w3.heap.size ba A) := ⟨HMi.out.below hb⟩
                have HBh : Aside0 (Below w8.heap.size w8 wh) := ⟨HBi.out.trans (hb.mono HBi.out.size)⟩
                clear hb
                clear hcut5 hyc5
                by_cases hlt : kk < i + 1
                · have u1 : decide ((kk : Int) < (i : Int) + 1) = true := by simp; omega
                  have u1' : decide (kk < i + 1) = true := by simp; omega
                  obtain ⟨A6, c6, y6, hy6, hcut6, hyc6, hC6⟩ := cut_words A1 c1 L hc1 ((i : Int) - (kk : Int)) ((i : Int) + 1) (i - kk) (i + 1) (by omega) (by omega) (by omega) (by omega)
                  have HCy6 := Aside0.mk hC6
                  have Hly6 : Aside0 (y6.length = kk + 1) := ⟨by rw [hy6]; simp; omega⟩
                  have hr6 : Aside0 (¬ Run (txt T) (txt y6)) := ⟨by
                    rw [hy6, Ref.txt_drop, Ref.txt_take]
                    have := hmax.out (j := kk + 1) (by omega) (by omega)
                    rwa [show i + 1 - (kk + 1) = i - kk by omega] at this⟩
                  clear hC6 hy6
                  go_wp2_with fail
                  refine (has A6 c6 y6 (HCy6.out _ (Kd.C_below HC1.out (HB8.out.trans (HBh.out.mono HB8.out.size)))) (by rw [Hly6.out]; omega) HMh.out HBt.out).mono ?_
                  rintro e wi ⟨rfl, hb⟩
                  rw [decide_eq_false hr6.out]
                  have HMz : Aside0 (AutoMem 53 56 wi w3.heap.size ba A) := ⟨HMh.out.below hb⟩
                  have HBz : Aside0 (Below w8.heap.size w8 wi) := ⟨HBh.out.trans (hb.mono HBh.out.size)⟩
                  clear hb
                  go_wp2_with fail
                  go_roundg (gk - 1)
                  case measure => have := HKi.out; omega
                  case rel => exact ⟨i + 1, by go_num, ⟨by have := HKi.out; omega⟩, HMz, HBz⟩
                · have u1 : decide ((kk : Int) < (i : Int) + 1) = false := by simp; omega
                  have u1' : decide (kk < i + 1) = false := by simp; omega
                  go_wp2_with fail
                  go_roundg (gk - 1)
                  case measure => have := HKi.out; omega
                  case rel => exact ⟨i + 1, by go_num, ⟨by have := HKi.out; omega⟩, HMh, HBh⟩
              · have v1 : decide (0 < (i : Int)) = false := by simpa using hi0
                obtain ⟨A5, c5, y5, hy5, hcut5, hyc5, hC5⟩ := cut_words A1 c1 L hc1 ((i : Int) + 1 - (kk : Int)) ((i : Int) + 1) (i + 1 - kk) (i + 1) (by omega) (by omega) (by omega) (by omega)
                have HCy5 := Aside0.mk hC5
                have Hly5 : Aside0 (y5.length = kk) := ⟨by rw [hy5]; simp; omega⟩
                have hr5 : Aside0 (Run (txt T) (txt y5)) := ⟨by rw [hy5, Ref.txt_drop, Ref.txt_take]; exact hrun.out⟩
                clear hC5 hy5
                go_wp2_with fail
                refine (has A5 c5 y5 (HCy5.out _ (Kd.C_below HC1.out (HB8.out.trans (HBi.out.mono HB8.out.size)))) (by rw [Hly5.out]; omega) HMi.out HBt.out).mono ?_
                rintro e wh ⟨rfl, hb⟩
                rw [decide_eq_true hr5.out]
                have HMh : Aside0 (AutoMem 53 56 wh w3.heap.size ba A) := ⟨HMi.out.below hb⟩
                have HBh : Aside0 (Below w8.heap.size w8 wh) := ⟨HBi.out.trans (hb.mono HBi.out.size)⟩
                clear hb
                clear hcut5 hyc5
                by_cases hlt : kk < i + 1
                · have u1 : decide ((kk : Int) < (i : Int) + 1) = true := by simp; omega
                  have u1' : decide (kk < i + 1) = true := by simp; omega
                  obtain ⟨A6, c6, y6, hy6, hcut6, hyc6, hC6⟩ := cut_words A1 c1 L hc1 ((i : Int) - (kk : Int)) ((i : Int) + 1) (i - kk) (i + 1) (by omega) (by omega) (by omega) (by omega)
                  have HCy6 := Aside0.mk hC6
                  have Hly6 : Aside0 (y6.length = kk + 1) := ⟨by rw [hy6]; simp; omega⟩
                  have hr6 : Aside0 (¬ Run (txt T) (txt y6)) := ⟨by
                    rw [hy6, Ref.txt_drop, Ref.txt_take]
                    have := hmax.out (j := kk + 1) (by omega) (by omega)
                    rwa [show i + 1 - (kk + 1) = i - kk by omega] at this⟩
                  clear hC6 hy6
                  go_wp2_with fail
                  refine (has A6 c6 y6 (HCy6.out _ (Kd.C_below HC1.out (HB8.out.trans (HBh.out.mono HB8.out.size)))) (by rw [Hly6.out]; omega) HMh.out HBt.out).mono ?_
                  rintro e wi ⟨rfl, hb⟩
                  rw [decide_eq_false hr6.out]
                  have HMz : Aside0 (AutoMem 53 56 wi w3.heap.size ba A) := ⟨HMh.out.below hb⟩
                  have HBz : Aside0 (Below w8.heap.size w8 wi) := ⟨HBh.out.trans (hb.mono HBh.out.size)⟩
                  clear hb
                  go_wp2_with fail
                  go_roundg (gk - 1)
                  case measure => have := HKi.out; omega
                  case rel => exact ⟨i + 1, by go_num, ⟨by have := HKi.out; omega⟩, HMz, HBz⟩
                · have u1 : decide ((kk : Int) < (i : Int) + 1) = false := by simp; omega
                  have u1' : decide (kk < i + 1) = false := by simp; omega
                  go_wp2_with fail
                  go_roundg (gk - 1)
                  case measure => have := HKi.out; omega
                  case rel => exact ⟨i + 1, by go_num, ⟨by have := HKi.out; omega⟩, HMh, HBh⟩
            · have hib : decide ((i : Int) < (L.length : Int)) = false := by simpa using hi
              by_cases hl0 : L.length = 0
              · have z1 : ((L.length : Int) == 0) = true := by rw [beq_iff_eq]; omega
                go_wp2_with fail
                go_ret
                exact ⟨by first | rfl | (simp; omega), HBw.out⟩
              · have z1 : ((L.length : Int) == 0) = false := by rw [beq_eq_false_iff_ne]; omega
                have HMx := Aside0.mk (max_calls wr A2 L.length L.length (endsS (txt T) (txt L)) (Kd.C_below HC2.out HBi.out) HLe.out (by omega) (by omega) n (fun q hq => HBest.out.ends q (by rw [Ref.txt_length]; exact hq)) (by
                  obtain ⟨p, hp, hpn⟩ := HBest.out.top (by rw [Ref.txt_length]; omega)
                  rw [Ref.txt_length] at hp
                  exact ⟨p, hp, hpn⟩) (by omega))
                go_wp2_with (go_at_call 29; with_reducible refine HMx.out.mono ?_; rintro e wz ⟨rfl, hb⟩)
                go_ret
                exact ⟨by first | rfl | (simp; done) | (simp; omega), HBw.out.trans (hb.mono HBw.out.size)⟩
end Go.Proofs.Ytbakoigejihnaaa.Law

/- The longest run is a run of both texts, at both places: the row of AutomatonCommon, out of the law's walk. -/
namespace Go.Proofs.Ytbakoigejihnaaa.Law
open Go.ChangeShapes Go.WideShapes Go.ChangeAt Go.RowKit
open Go.ChangeMaps (open_string shut_string)
set_option linter.unusedVariables false

set_option maxRecDepth 100000 in
theorem common_lifted (os : Os) (started : os.Started) (H : Type) (enc : TypeId × Value → H) :
    ReturnsInHanded {} Try.checked os 7 .any (Rows.automatonCommonSpec.pre6 enc Try.prog Try.f7 Rows.automatonCommonRow.domain false) (Rows.automatonCommonSpec.post enc Try.prog Try.f7 false true false false) := by
  refine returnsInHanded_of_change_sized (C := Try.checked) own started (by kernel_rfl) Try.func7
    (ChangeSpec.witness6 (enc := enc) (C := Try.checked) false ⟨#[], #[.slice none 0 0, .slice none 0 0], []⟩ 8 (by kernel_rfl) (by kernel_rfl) (by kernel_rfl) (by kernel_rfl)) ?_
  intro W base args ds gs before hval0 hW hcnd hsz0 _
  have hval : ∀ (j : Nat) t v, Try.f7.params[j]? = some t → args[j]? = some v → Value.okWide Try.prog W .any base t v := hval0
  have hW' := hW
  obtain ⟨p, q, hA0, hV, rfl, hfz, hnd⟩ := hW
  have hA : DataW.TrodAll enc Try.prog W 0 (fun _ => true) true Try.f7.params.toList args.toList ds p := hA0
  rw [Try.params7] at hA hval
  obtain ⟨v0, vs0, d0, ds0, p0, q0, hargs, rfl, rfl, h0, r0⟩ := trodAll_cons hA
  obtain ⟨v1, vs1, d1, ds1, p1, q1, rfl, rfl, rfl, h1, r1⟩ := trodAll_cons r0
  obtain ⟨rfl, rfl, rfl⟩ := trodAll_nil r1
  obtain rfl : args = #[v0, v1] := by cases args; simp_all
  obtain ⟨rfl, rfl⟩ := trodVars_none hV
  obtain ⟨a0, len0, cap0, rfl⟩ := okWide_slice Try.underlying22 (hval 0 22 v0 rfl rfl)
  have k0 := h0
  have lt0 : ∀ x ∈ p0, x.block < W.heap.size := by obtain ⟨m, hm⟩ := k0; exact DataW.trod_lt m _ _ _ hm
  obtain ⟨l0, rfl, hl0, hC0⟩ := open_words h0
  obtain ⟨a1, len1, cap1, rfl⟩ := okWide_slice Try.underlying22 (hval 1 22 v1 rfl rfl)
  have k1 := h1
  have lt1 : ∀ x ∈ p1, x.block < W.heap.size := by obtain ⟨m, hm⟩ := k1; exact DataW.trod_lt m _ _ _ hm
  obtain ⟨l1, rfl, hl1, hC1⟩ := open_words h1
  clear hA0 hval0 hsz0
  refine (common_walk W a0 a1 cap0 cap1 l0 l1 hC0 hl0 hC1 hl1).mono fun e W' ⟨he, bel⟩ => ?_
  subst he
  exact ⟨_, rfl, _, _, _, [], _, [], hW', trodAll_mk1 (shut_bool Try.underlying4 _), (trodAll_cons_mk (Below.trod laidOut (by kernel_rfl) (of_decide_eq_true (by kernel_rfl)) k0 bel lt0) (trodAll_cons_mk (Below.trod laidOut (by kernel_rfl) (of_decide_eq_true (by kernel_rfl)) k1 bel lt1) trodAll_mk0)), rfl, bel.frame _, fun h => by cases h⟩

theorem common_over : Rows.automatonCommonRow.holds Try.pinned (OpenSpec.ofChange Rows.automatonCommonSpec) :=
  OpenClaim.holds_of_wide 7 Try.f7 rfl rfl rfl rfl rfl rfl rfl ⟨rfl, rfl, rfl, rfl, rfl⟩ rfl rfl rfl rfl rfl (by kernel_rfl) Try.func7 (by kernel_rfl)
    (of_decide_eq_true (by kernel_rfl)) (by unfold Func.isWrapper; first | (rw [if_pos (by decide +kernel)]; kernel_rfl) | (rw [if_neg (by decide +kernel)]; exact ⟨rfl, rfl⟩))
    (fun os started H enc _ => common_lifted os started H enc)
end Go.Proofs.Ytbakoigejihnaaa.Law
namespace Go.Proofs.Ytbakoigejihnaaa
/-- The row, under a short name, for the claim. -/
theorem automatonCommon_holds : Rows.AutomatonCommonSaid := Law.common_over
end Go.Proofs.Ytbakoigejihnaaa
