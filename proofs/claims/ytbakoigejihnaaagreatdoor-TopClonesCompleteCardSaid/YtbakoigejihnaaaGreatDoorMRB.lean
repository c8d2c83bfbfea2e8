/- Contracts of functions of the program and of Go's library: what they compute. Conditions: as each says. -/
import Derived.Test.YtbakoigejihnaaaGreatDoorMRA
namespace Go.Proofs.YtbakoigejihnaaaGreatDoor.Ref
open Go.RowKit Go.Proofs.YtbakoigejihnaaaGreatDoorW.PrintWords Go.Proofs.YtbakoigejihnaaaGreatDoorW.PrintLast Go.Proofs.YtbakoigejihnaaaGreatDoorW.PrintMore
attribute [local go_sem] max2_int min2_int max_two min_two max_three min_three max_four min_four   -- for this text's walks alone
set_option linter.unusedVariables false
set_option linter.unusedSimpArgs false

/-! ### rolling_Grams: function 61 -/
mutual
def rolling_Grams.j0 : Nat → List (S35) → Int → Bool → Option (List Int × Int)
  | 0, _, _, _ => none
  | k + 1, x0, x1, x10 => if x10 = true then (some (([] : List Int), 3)) else (if (x0.length : Int) > 8192 then (some (([] : List Int), 10)) else (if (x0.length : Int) < x1 then (some (([] : List Int), 0)) else (if 0 ≤ x1 then (if x1 ≤ (x0.length : Int) then ((rolling_Hash.f k (x0.take (x1 : Int).toNat)).bind fun t178 => ((rolling_power.f k (wrap64 (x1 - 1))).bind fun t182 => ((some (x0.drop (x1 : Int).toNat : List (S35))).bind fun y183 => (rolling_Grams.l0 k x0 (([t178] : List Int)) t182 y183 (y183.length : Int) 0)))) else (none)) else (none))))
def rolling_Grams.l0 : Nat → List (S35) → List Int → Int → List (S35) → Int → Int → Option (List Int × Int)
  | 0, _, _, _, _, _, _ => none
  | k + 1, x0, x6, x7, x36, x37, x38 => if x38 < x37 then (if 0 ≤ x38 then (if x38 < (x36.length : Int) then (if x38 < (x6.length : Int) then (if x38 < (x0.length : Int) then ((rolling_roll.f k (rd x6 x38) ((rd_T35 x0 x38).f0) ((rd_T35 x36 x38).f0) x7).bind fun t191 => (if x6.length < 17592186044416 then (rolling_Grams.l0 k x0 (x6 ++ [t191]) x7 x36 x37 (wrap64 (x38 + 1))) else (none))) else (none)) else (none)) else (none)) else (none)) else (some (x6, 0))
end
def rolling_Grams.f (k : Nat) (l0 : List (S35)) (a1 : Int) : Option (List Int × Int) := if a1 < 1 then (rolling_Grams.j0 k l0 a1 true) else (rolling_Grams.j0 k l0 a1 (decide (a1 > 8192)))
theorem rolling_Grams.mono_l : ∀ k, (∀ y0 y1 y2, LeO (rolling_Grams.j0 k y0 y1 y2) (rolling_Grams.j0 (k + 1) y0 y1 y2)) ∧ (∀ y0 y1 y2 y3 y4 y5, LeO (rolling_Grams.l0 k y0 y1 y2 y3 y4 y5) (rolling_Grams.l0 (k + 1) y0 y1 y2 y3 y4 y5))
  | 0 => ⟨fun _ _ _ r h => by simp [rolling_Grams.j0] at h, fun _ _ _ _ _ _ r h => by simp [rolling_Grams.l0] at h⟩
  | k + 1 => by
    obtain ⟨ih0, ih1⟩ := rolling_Grams.mono_l k
    refine ⟨?_, ?_⟩
    · intro y0 y1 y2
      unfold rolling_Grams.j0
      repeat' first
      | (with_reducible exact ih0 _ _ _)
      | (with_reducible exact ih1 _ _ _ _ _ _)
      | (with_reducible exact rolling_Hash.mono _ _)
      | (with_reducible exact rolling_power.mono _ _)
      | (with_reducible exact rolling_roll.mono _ _ _ _ _)
      | (with_reducible exact LeO.refl _)
      | (with_reducible exact LeO.none _)
      | (with_reducible refine LeO.ite ?_ ?_)
      | (with_reducible refine LeO.bind ?_ (fun _ => ?_))
      | exact ih0 _ _ _
      | exact ih1 _ _ _ _ _ _
      | exact rolling_Hash.mono _ _
      | exact rolling_power.mono _ _
      | exact rolling_roll.mono _ _ _ _ _
      | exact LeO.none _
      | refine LeO.ite ?_ ?_
      | refine LeO.bind ?_ (fun _ => ?_)
    · intro y0 y1 y2 y3 y4 y5
      unfold rolling_Grams.l0
      repeat' first
      | (with_reducible exact ih0 _ _ _)
      | (with_reducible exact ih1 _ _ _ _ _ _)
      | (with_reducible exact rolling_Hash.mono _ _)
      | (with_reducible exact rolling_power.mono _ _)
      | (with_reducible exact rolling_roll.mono _ _ _ _ _)
      | (with_reducible exact LeO.refl _)
      | (with_reducible exact LeO.none _)
      | (with_reducible refine LeO.ite ?_ ?_)
      | (with_reducible refine LeO.bind ?_ (fun _ => ?_))
      | exact ih0 _ _ _
      | exact ih1 _ _ _ _ _ _
      | exact rolling_Hash.mono _ _
      | exact rolling_power.mono _ _
      | exact rolling_roll.mono _ _ _ _ _
      | exact LeO.none _
      | refine LeO.ite ?_ ?_
      | refine LeO.bind ?_ (fun _ => ?_)
theorem rolling_Grams.mono : ∀ a0 a1 k, LeO (rolling_Grams.f k a0 a1) (rolling_Grams.f (k + 1) a0 a1) := by
  intro a0 a1 k
  obtain ⟨ih0, ih1⟩ := rolling_Grams.mono_l k
  unfold rolling_Grams.f
  repeat' first
      | (with_reducible exact ih0 _ _ _)
      | (with_reducible exact ih1 _ _ _ _ _ _)
      | (with_reducible exact rolling_Hash.mono _ _)
      | (with_reducible exact rolling_power.mono _ _)
      | (with_reducible exact rolling_roll.mono _ _ _ _ _)
      | (with_reducible exact LeO.refl _)
      | (with_reducible exact LeO.none _)
      | (with_reducible refine LeO.ite ?_ ?_)
      | (with_reducible refine LeO.bind ?_ (fun _ => ?_))
      | exact ih0 _ _ _
      | exact ih1 _ _ _ _ _ _
      | exact rolling_Hash.mono _ _
      | exact rolling_power.mono _ _
      | exact rolling_roll.mono _ _ _ _ _
      | exact LeO.none _
      | refine LeO.ite ?_ ?_
      | refine LeO.bind ?_ (fun _ => ?_)
def rolling_Grams.T12 : Bool × List (List Nat × List Nat) := (true, [([], []), ([], []), ([], []), ([1, 2], [1, 2]), ([3], [3]), ([], []), ([], []), ([5, 6], [5, 6]), ([7], [7]), ([8], [8]), ([], []), ([10], [10]), ([], []), ([4, 9, 11, 12], [4, 9, 11, 12]), ([13], [13]), ([0, 14, 13], [0, 14]), ([15, 15, 0, 1, 2, 3, 4, 5, 6, 7, 8, 9, 10, 11, 12, 13, 14, 15], [0, 1, 15])])
def rolling_Grams.B12 : List Nat := [0, 0, 0, 6, 14, 0, 0, 96, 224, 480, 0, 1024, 0, 8190, 16382, 32767, 65535]
theorem rolling_Grams.tab12 : rtab .any (opsOf Tryz.f61 12) = rolling_Grams.T12 := by kernel_rfl
theorem rolling_Grams.bits12 : waitsOk rolling_Grams.T12.2 rolling_Grams.B12 = true := by kernel_rfl
set_option maxHeartbeats 8000000 in
set_option maxRecDepth 100000 in
theorem rolling_Grams.calls (k : Nat) (A0 : Option Addr) (c0 : Nat) (l0 : List (S35)) (a1 : Int) (r1 : List Int) (r2 : Int) (w : World) (hr0 : Kd.C k35 w A0 l0.length l0) (hc0 : l0.length ≤ c0) (h : rolling_Grams.f k l0 a1 = some (r1, r2)) :
    Calls Tryz.prog 61 #[.slice A0 l0.length c0, .int .i64 a1] w fun e w' => ∃ v0_ : Value, e = .returned (.tuple #[v0_, .int .i64 r2]) ∧ Kd.R (Kd.int .i64) 3 w' w.heap.size (fun _ => True) v0_ r1 ∧ Below w.heap.size w w' := by
  have hu35 := Tryz.underlying35
  have HR0 := Aside0.mk hr0
  have HC0 := Aside0.mk hc0
  clear hr0 hc0
  have HB := Aside0.mk (Below.refl w.heap.size w)
  have H : (if a1 < 1 then (rolling_Grams.j0 k l0 a1 true) else (rolling_Grams.j0 k l0 a1 (decide (a1 > 8192)))) = some (r1, r2) := h
  clear h
  have HC3 := Aside0.mk H
  clear H
  go_enter Tryz.func61, Tryz.ntmps61
  go_upto_region 1 with (fail)
  go_cut [10] (fun v10 wc => ∃ (kq : Nat) (x10_2 : Bool), v10 = .bool x10_2 ∧ Aside0 (rolling_Grams.j0 kq l0 a1 x10_2 = some (r1, r2)) ∧ Aside0 (kq ≤ k) ∧ Aside0 (Below w.heap.size w wc))
  case first =>
    have H := HC3.out
    clear HC3
    by_cases c4 : a1 < 1
    · rw [if_pos c4] at H
      have c4b0 : decide (a1 < 1) = true := decide_eq_true c4
      clear c4
      (first | rw [c4b0] | (simp only [i64_w, i32_w]; rw [c4b0]) | skip)
      have H' := Aside0.mk H
      clear H
      go_wp2
      go_meet
      case rel => exact ⟨_, (true), (by first | rfl | (simp; done) | (simp [*]; done)), H', ⟨by first | omega | exact Nat.le_refl _⟩, ⟨by repeat (first | (with_reducible first | exact HB.out | apply below_alloc | apply pw_below_drewN | apply below_drew1) | exact HB.out)⟩⟩
    · rw [if_neg c4] at H
      have c4b0 : decide (a1 < 1) = false := decide_eq_false c4
      clear c4
      (first | rw [c4b0] | (simp only [i64_w, i32_w]; rw [c4b0]) | skip)
      have H' := Aside0.mk H
      clear H
      go_wp2
      go_meet
      case rel => exact ⟨_, (decide (a1 > 8192)), (by first | rfl | (simp; done) | (simp [*]; done)), H', ⟨by first | omega | exact Nat.le_refl _⟩, ⟨by repeat (first | (with_reducible first | exact HB.out | apply below_alloc | apply pw_below_drewN | apply below_drew1) | exact HB.out)⟩⟩
  case rest =>
    clear HC3
    try clear p2
    try clear c4
    try clear c4b0
    obtain ⟨kq, x10_2, rfl, HA, HJ2, HB⟩ := hcut
    cases kq with
    | zero => exact absurd HA.out (by simp [rolling_Grams.j0])
    | succ kj2 =>
      have H := HA.out
      clear HA
      simp only [rolling_Grams.j0] at H
      by_cases c5 : x10_2 = true
      · subst c5
        have H1 : (some (([] : List Int), 3)) = some (r1, r2) := by rw [if_pos rfl] at H; exact H
        clear H
        have H := H1
        clear H1
        simp only [Option.some.injEq, Prod.mk.injEq] at H
        obtain ⟨rfl, rfl⟩ := H
        go_wp2
        go_ret2
        exact ⟨_, by first | rfl | (simp [errW_none, errW_some] <;> rfl) | (simp [*, errW_none, errW_some] <;> rfl), by first | exact Kd.R_nil _ _ _ _ _ | exact Kd.N_nil _ _ _ _ _ | exact Kd.V_nil _ _ _ _ _ | exact Kd.Q_nil _ _ _ _ _ | exact Kd.S_nil _ _ _ _ _, by repeat (first | (with_reducible first | exact HB.out | apply below_alloc | apply pw_below_drewN | apply below_drew1) | exact HB.out)⟩
      · replace c5 := Bool.eq_false_iff.mpr c5
        subst c5
        have H1 : (if (l0.length : Int) > 8192 then (some (([] : List Int), 10)) else (if (l0.length : Int) < a1 then (some (([] : List Int), 0)) else (if 0 ≤ a1 then (if a1 ≤ (l0.length : Int) then ((rolling_Hash.f kj2 (l0.take (a1 : Int).toNat)).bind fun t178 => ((rolling_power.f kj2 (wrap64 (a1 - 1))).bind fun t182 => ((some (l0.drop (a1 : Int).toNat : List (S35))).bind fun y183 => (rolling_Grams.l0 kj2 l0 (([t178] : List Int)) t182 y183 (y183.length : Int) 0)))) else (none)) else (none)))) = some (r1, r2) := by rw [if_neg (show ¬ (false = true) by decide)] at H; exact H
        clear H
        have H := H1
        clear H1
        by_cases c6 : (l0.length : Int) > 8192
        · rw [if_pos c6] at H
          have c6b0 : decide (8192 < (l0.length : Int)) = true := decide_eq_true c6
          have c6b1 : decide (8192 < l0.length) = true := decide_eq_true (by omega)
          clear c6
          simp only [Option.some.injEq, Prod.mk.injEq] at H
          obtain ⟨rfl, rfl⟩ := H
          go_wp2
          go_ret2
          exact ⟨_, by first | rfl | (simp [errW_none, errW_some] <;> rfl) | (simp [*, errW_none, errW_some] <;> rfl), by first | exact Kd.R_nil _ _ _ _ _ | exact Kd.N_nil _ _ _ _ _ | exact Kd.V_nil _ _ _ _ _ | exact Kd.Q_nil _ _ _ _ _ | exact Kd.S_nil _ _ _ _ _, by repeat (first | (with_reducible first | exact HB.out | apply below_alloc | apply pw_below_drewN | apply below_drew1) | exact HB.out)⟩
        · rw [if_neg c6] at H
          have c6b0 : decide (8192 < (l0.length : Int)) = false := decide_eq_false c6
          have c6b1 : decide (8192 < l0.length) = false := decide_eq_false (by omega)
          clear c6
          by_cases c7 : (l0.length : Int) < a1
          · rw [if_pos c7] at H
            have c7b0 : decide ((l0.length : Int) < a1) = true := decide_eq_true c7
            clear c7
            simp only [Option.some.injEq, Prod.mk.injEq] at H
            obtain ⟨rfl, rfl⟩ := H
            go_wp2
            go_ret2
            exact ⟨_, by first | rfl | (simp [errW_none, errW_some] <;> rfl) | (simp [*, errW_none, errW_some] <;> rfl), by first | exact Kd.R_nil _ _ _ _ _ | exact Kd.N_nil _ _ _ _ _ | exact Kd.V_nil _ _ _ _ _ | exact Kd.Q_nil _ _ _ _ _ | exact Kd.S_nil _ _ _ _ _, by repeat (first | (with_reducible first | exact HB.out | apply below_alloc | apply pw_below_drewN | apply below_drew1) | exact HB.out)⟩
          · rw [if_neg c7] at H
            have c7b0 : decide ((l0.length : Int) < a1) = false := decide_eq_false c7
            clear c7
            by_cases c8 : 0 ≤ a1
            · rw [if_pos c8] at H
              have c8b0 := eq_true c8
              have c8b1 : decide (0 ≤ a1) = true := decide_eq_true c8
              clear c8
              by_cases c9 : a1 ≤ (l0.length : Int)
              · rw [if_pos c9] at H
                have c9b0 := eq_true c9
                have c9b1 : decide (a1 ≤ (l0.length : Int)) = true := decide_eq_true c9
                clear c9
                obtain ⟨y174, hy174⟩ : ∃ y_ : List (S35), y_ = (l0.take (a1 : Int).toNat) := ⟨_, rfl⟩
                replace H : ((rolling_Hash.f kj2 y174).bind fun t178 => ((rolling_power.f kj2 (wrap64 (a1 - 1))).bind fun t182 => ((some (l0.drop (a1 : Int).toNat : List (S35))).bind fun y183 => (rolling_Grams.l0 kj2 l0 (([t178] : List Int)) t182 y183 (y183.length : Int) 0)))) = some (r1, r2) := by first | (rw [hy174]; with_reducible exact H) | (have H2_ := (Option.bind_some _ _).symm.trans H; rw [hy174]; with_reducible exact H2_) | (have H2_ := (Option.bind_some _ _).symm.trans H; with_reducible exact H2_) | with_reducible exact H | (rw [hy174]; exact H) | exact H
                have Ny174 := Aside0.mk hy174
                clear hy174
                replace H := Option.bind_eq_some_iff.mp H
                obtain ⟨t178, A100, H⟩ := H
                replace H : ((rolling_power.f kj2 (wrap64 (a1 - 1))).bind fun t182 => ((some (l0.drop (a1 : Int).toNat : List (S35))).bind fun y183 => (rolling_Grams.l0 kj2 l0 (([t178] : List Int)) t182 y183 (y183.length : Int) 0))) = some (r1, r2) := H
                have A10 := Aside0.mk A100
                clear A100
                obtain ⟨y179, hy179⟩ : ∃ y_ : List Int, y_ = (([t178] : List Int)) := ⟨_, rfl⟩
                replace H : ((rolling_power.f kj2 (wrap64 (a1 - 1))).bind fun t182 => ((some (l0.drop (a1 : Int).toNat : List (S35))).bind fun y183 => (rolling_Grams.l0 kj2 l0 y179 t182 y183 (y183.length : Int) 0))) = some (r1, r2) := by first | (rw [hy179]; with_reducible exact H) | (have H2_ := (Option.bind_some _ _).symm.trans H; rw [hy179]; with_reducible exact H2_) | (have H2_ := (Option.bind_some _ _).symm.trans H; with_reducible exact H2_) | with_reducible exact H | (rw [hy179]; exact H) | exact H
                have Ny179 := Aside0.mk hy179
                clear hy179
                replace H := Option.bind_eq_some_iff.mp H
                obtain ⟨t182, A110, H⟩ := H
                replace H : ((some (l0.drop (a1 : Int).toNat : List (S35))).bind fun y183 => (rolling_Grams.l0 kj2 l0 y179 t182 y183 (y183.length : Int) 0)) = some (r1, r2) := H
                have A11 := Aside0.mk A110
                clear A110
                have c12b0 := eq_true (of_decide_eq_true (by first | (with_reducible assumption) | assumption) : 0 ≤ a1)
                have c13b0 := eq_true (of_decide_eq_true (by first | (with_reducible assumption) | assumption) : a1 ≤ (l0.length : Int))
                obtain ⟨y183, hy183⟩ : ∃ y_ : List (S35), y_ = (l0.drop (a1 : Int).toNat) := ⟨_, rfl⟩
                replace H : (rolling_Grams.l0 kj2 l0 y179 t182 y183 (y183.length : Int) 0) = some (r1, r2) := by first | (rw [hy183]; with_reducible exact H) | (have H2_ := (Option.bind_some _ _).symm.trans H; rw [hy183]; with_reducible exact H2_) | (have H2_ := (Option.bind_some _ _).symm.trans H; with_reducible exact H2_) | with_reducible exact H | (rw [hy183]; exact H) | exact H
                have Ny183 := Aside0.mk hy183
                clear hy183
                have H' := Aside0.mk H
                clear H
                have q14 : (a1 : Int) ≤ ((l0.length : Int) : Int) := of_decide_eq_true (by first | (with_reducible assumption) | assumption)
                obtain ⟨i014, hi014, _, hsz14, _⟩ := info_parts info35
                have hroom14 : l0.length ≤ c0 := HC0.out
                have hC14 : Kd.C k35 _ A0 l0.length l0 := HR0.out
                have hcut14 := cut_to (P := Tryz.prog) 23 35 .i64 Tryz.underlying23 hi014 A0 l0.length c0 a1 (of_decide_eq_true (by first | (with_reducible assumption) | assumption)) q14 hroom14
                have hr14 := Kd.C_take (m := (a1 : Int).toNat) hC14 (by omega)
                have hy14 : y174.length = (a1 : Int).toNat := (by rw [Ny174.out, List.length_take]; omega)
                rw [← Ny174.out] at hr14
                rw [← hy14] at hcut14
                have HR177 := Aside0.mk hr14
                have HC177 := Aside0.mk (show y174.length ≤ c0 from by omega)
                clear hr14 hC14 hroom14 hi014 hsz14
                have KY14 := Aside0.mk hy14
                clear hy14
                replace q14 := eq_true q14
                go_wp2_with (first | ((with_reducible refine gate_callee (f := 90) rfl ?_); refine goesL_ (some 29) rfl rfl Tryz.func90 (by kernel_rfl) rfl #[.slice A0 y174.length c0] rfl (by (try simp only [List.map_toArray, List.map_cons, List.map_nil]); first | done | rfl | (simp only [List.length_drop, List.length_take]; rfl)) ?_; (with_reducible refine (rolling_Hash.calls kj2 _ _ y174 t178 _ ?side1 ?side2 A10.out).mono ?_); (case side1 => repeat (first | exact (Kd.C_below HR177.out HB.out) | (with_reducible refine Kd.C_alloc ?_ _) | (with_reducible refine Kd.C_drewN ?_ _) | (with_reducible refine Kd.C_drew ?_))); (case side2 => exact HC177.out); rintro e w15 ⟨rfl, hb⟩; refine ⟨_, rfl, ?_⟩; have n0_ := Aside0.mk (below_step (by repeat (first | (with_reducible first | exact HB.out | apply below_alloc | apply pw_below_drewN | apply below_drew1) | exact HB.out)) hb); clear HB; have HB := n0_; clear n0_; (try clear hb); (try clear hb2); (try clear hk); (try clear hi)) | ((with_reducible refine gate_dst (N := 30) rfl ?_); refine Kd.R_lit (Kd.int .i64) _ 3 ?hg (N := 30) ?hd (xs := ([t178] : List Int)) (inner := [.int .i64 t178]) (ok := fun _ => True) (okp := fun _ => True) ?hr ?hp (fun _ hk => hk) trivial (Below.refl _ _) (Nat.le_refl _) (by simp) ?_; (case hd => rfl); (case hg => rfl); (case hr => first | (go_simp; done) | (go_simp; rfl)); (case hp => exact (Reps.one (show Kd.M (Kd.int .i64) _ _ _ t178 [.int .i64 t178] from rfl) (Reps.none _ _))); intro v180 w16 ho17 hb hg_ hnew_; clear hg_ hnew_; (first | rw [← Ny179.out] at ho17 | (simp only [Int.reduceToNat] at ho17; rw [← Ny179.out] at ho17)); have n0_ := Aside0.mk (Kd.R_lower ho17 (below_size (by repeat (first | (with_reducible first | exact HB.out | apply below_alloc | apply pw_below_drewN | apply below_drew1) | exact HB.out)))); have n1_ := Aside0.mk (below_step (by repeat (first | (with_reducible first | exact HB.out | apply below_alloc | apply pw_below_drewN | apply below_drew1) | exact HB.out)) hb); clear HB; have HO181 := n0_; have HB := n1_; clear n0_ n1_; clear hb ho17) | ((with_reducible refine gate_callee (f := 91) rfl ?_); refine goesL_ (some 33) rfl rfl Tryz.func91 (by kernel_rfl) rfl #[.int .i64 (wrap64 (a1 - 1))] rfl (by (try simp only [List.map_toArray, List.map_cons, List.map_nil]); first | done | rfl | (simp only [List.length_drop, List.length_take]; rfl)) ?_; (with_reducible refine (rolling_power.calls kj2 (wrap64 (a1 - 1)) t182 _ A11.out).mono ?_); rintro e w' ⟨rfl, ⟨nd, rfl⟩⟩; refine ⟨_, rfl, ?_⟩; have q18 : (a1 : Int) ≤ ((l0.length : Int) : Int) := of_decide_eq_true (by first | (with_reducible assumption) | assumption); obtain ⟨i018, hi018, _, hsz18, _⟩ := info_parts info35; have hroom18 : l0.length ≤ c0 := HC0.out; have hC18 : Kd.C k35 _ A0 l0.length l0 := HR0.out; have q018 : (0 : Int) ≤ (a1 : Int) := of_decide_eq_true (by first | (with_reducible assumption) | assumption); have hcut18 := cut_from (P := Tryz.prog) 23 35 .i64 Tryz.underlying23 hi018 2 hsz18 A0 l0.length c0 a1 q018 q18; have hr18 := Kd.C_drop (m := (a1 : Int).toNat) (c := c0) hC18 (by omega) hroom18; obtain ⟨A18, hA18⟩ : ∃ A1_, A1_ = (if c0 = (a1 : Int).toNat then A0 else (A0 : Option Addr).map (·.add ((a1 : Int).toNat * 2))) := ⟨_, rfl⟩; obtain ⟨c18, hc18⟩ : ∃ c1, c1 = c0 - (a1 : Int).toNat := ⟨_, rfl⟩; have hy18 : y183.length = l0.length - (a1 : Int).toNat := (by rw [Ny183.out, List.length_drop] <;> omega); rw [show (l0).drop (a1 : Int).toNat = y183 from Ny183.out.symm] at hr18; replace hr18 : Kd.C k35 _ A18 y183.length y183 := (by rw [hA18]; exact hr18); rw [← hy18, ← hA18, ← hc18] at hcut18; have HR186 := Aside0.mk hr18; have HC186 := Aside0.mk (show y183.length ≤ c18 from by rw [hy18, hc18]; exact Nat.sub_le_sub_right hroom18 _); clear hr18 hC18 hroom18 hi018 hsz18 hc18; have KY18 := Aside0.mk hy18; have KA18 := Aside0.mk hA18; clear hy18 hA18; replace q18 := eq_true q18))
                go_loopg [6, 38] kj2 (fun kq v6 v38 w' => ∃ (x6_2 : List Int) (x38_2 : Int), v38 = .int .i64 x38_2 ∧ Aside0 (rolling_Grams.l0 kq l0 x6_2 t182 y183 (y183.length : Int) x38_2 = some (r1, r2)) ∧ Aside0 (kq ≤ kj2) ∧ Aside0 (Kd.R (Kd.int .i64) 3 w' w.heap.size (fun _ => True) v6 x6_2) ∧ Aside0 (Below w.heap.size w w'))
                case atStart => exact ⟨(y179), (0), (by first | rfl | (simp; done) | (simp [*]; done)), H', ⟨Nat.le_refl _⟩, ⟨by (with_reducible repeat (first | apply Kd.R_alloc | apply Kd.R_drewN | apply Kd.R_drew)); exact HO181.out⟩, ⟨by repeat (first | (with_reducible first | exact HB.out | apply below_alloc | apply pw_below_drewN | apply below_drew1) | exact HB.out)⟩⟩
                case round =>
                  clear H'
                  try clear c1
                  try clear q1
                  try clear p2
                  try clear c4
                  try clear c4b0
                  try clear c5
                  try clear c6
                  try clear c6b0
                  try clear c6b1
                  try clear p6
                  try clear c7
                  try clear c7b0
                  try clear c8
                  try clear c8b0
                  try clear c8b1
                  try clear c9
                  try clear c9b0
                  try clear c9b1
                  try clear c12
                  try clear c12b0
                  try clear c13
                  try clear c13b0
                  try clear q14
                  try clear c18
                  try clear q18
                  try clear p2
                  try clear q018
                  try clear q14
                  try clear q18
                  obtain ⟨x6_2, x38_2, rfl, HA, HK2, HO_6, HB⟩ := hrel
                  cases gk with
                  | zero => exact absurd HA.out (by simp [rolling_Grams.l0])
                  | succ k2 =>
                    have H := HA.out
                    clear HA
                    simp only [rolling_Grams.l0] at H
                    by_cases c19 : x38_2 < (y183.length : Int)
                    · rw [if_pos c19] at H
                      have c19b0 : decide (x38_2 < (y183.length : Int)) = true := decide_eq_true c19
                      clear c19
                      by_cases c20 : 0 ≤ x38_2
                      · rw [if_pos c20] at H
                        have c20b0 : decide (0 ≤ x38_2) = true := decide_eq_true c20
                        clear c20
                        by_cases c21 : x38_2 < (y183.length : Int)
                        · rw [if_pos c21] at H
                          have c21b0 : decide (x38_2 < (y183.length : Int)) = true := decide_eq_true c21
                          clear c21
                          by_cases c22 : x38_2 < (x6_2.length : Int)
                          · rw [if_pos c22] at H
                            have c22b0 : decide (x38_2 < (x6_2.length : Int)) = true := decide_eq_true c22
                            clear c22
                            by_cases c23 : x38_2 < (l0.length : Int)
                            · rw [if_pos c23] at H
                              have c23b0 : decide (x38_2 < (l0.length : Int)) = true := decide_eq_true c23
                              clear c23
                              replace H := Option.bind_eq_some_iff.mp H
                              obtain ⟨t191, A240, H⟩ := H
                              replace H : (if x6_2.length < 17592186044416 then (rolling_Grams.l0 k2 l0 (x6_2 ++ [t191]) t182 y183 (y183.length : Int) (wrap64 (x38_2 + 1))) else (none)) = some (r1, r2) := H
                              have A24 := Aside0.mk A240
                              clear A240
                              by_cases c25 : x6_2.length < 17592186044416
                              · rw [if_pos c25] at H
                                have LMc25 := Aside0.mk c25
                                clear c25
                                obtain ⟨y192, hy192⟩ : ∃ y_ : List Int, y_ = (x6_2 ++ [t191]) := ⟨_, rfl⟩
                                replace H : (rolling_Grams.l0 k2 l0 y192 t182 y183 (y183.length : Int) (wrap64 (x38_2 + 1))) = some (r1, r2) := by first | (rw [hy192]; with_reducible exact H) | (have H2_ := (Option.bind_some _ _).symm.trans H; rw [hy192]; with_reducible exact H2_) | (have H2_ := (Option.bind_some _ _).symm.trans H; with_reducible exact H2_) | with_reducible exact H | (rw [hy192]; exact H) | exact H
                                have Ny192 := Aside0.mk hy192
                                clear hy192
                                have H' := Aside0.mk H
                                clear H
                                have p187 : 0 ≤ (x38_2 : Int) := of_decide_eq_true (by first | (with_reducible assumption) | assumption)
                                have q187 : x38_2 < (y183.length : Int) := of_decide_eq_true (by first | (with_reducible assumption) | assumption)
                                obtain ⟨ad187, e187, hx187_0, hx187_1⟩ := at_T35 HR186.out x38_2 p187 q187
                                cases e187
                                replace hx187_0 := (HB.out.cell (World.block_lt_of_cell? w _ hx187_0)).trans hx187_0
                                replace hx187_1 := (HB.out.cell (World.block_lt_of_cell? w _ hx187_1)).trans hx187_1
                                replace p187 := eq_true p187
                                replace q187 := eq_true q187
                                try go_wp2_with (first | ((with_reducible refine gate_dst (N := 9) rfl ?_); refine box_event ?hg (N := 9) ?hd (cs := #[.string (⟨#[]⟩ : ByteArray), .int .i64 0]) (t := 35) ?hr ?_; (case hd => rfl); (case hg => rfl); (case hr => first | (go_simp; done) | (go_simp; rfl)); intro gb188 hg w26 hbox hb; have n0_ := Aside0.mk (Kd.R_below (by (with_reducible repeat (first | apply Kd.R_alloc | apply Kd.R_drewN | apply Kd.R_drew)); exact HO_6.out) hb); have n1_ := Aside0.mk (below_step (by repeat (first | (with_reducible first | exact HB.out | apply below_alloc | apply pw_below_drewN | apply below_drew1) | exact HB.out)) hb); have n2_ := Aside0.mk (hbox); have n3_ := Aside0.mk ((by rw [hg]; exact (below_size (by repeat (first | (with_reducible first | exact HB.out | apply below_alloc | apply pw_below_drewN | apply below_drew1) | exact HB.out))) : w.heap.size ≤ gb188)); have n4_ := Aside0.mk ((by rw [hg]; exact (below_size (by repeat (first | (with_reducible first | exact HB.out | apply below_alloc | apply pw_below_drewN | apply below_drew1) | exact HB.out))) : w.heap.size ≤ gb188)); clear HO_6; clear HB; have HO_6 := n0_; have HB := n1_; have BK188 := n2_; have GW188 := n3_; have GE188 := n4_; clear n0_ n1_ n2_ n3_ n4_; clear hb hbox hg; have hcz27_0 : w26.cell? ⟨gb188, 0, none⟩ = some (.string (⟨#[]⟩ : ByteArray)) := (blk_cell BK188.out 0).trans rfl; have hcz27_1 : w26.cell? ⟨gb188, 1, none⟩ = some (.int .i64 0) := (blk_cell BK188.out 1).trans rfl; have hfz27_0 := blk_frozen BK188.out 0; have hfz27_1 := blk_frozen BK188.out 1))
                                have n0_ : Aside0 (Kd.R (Kd.int .i64) 3 ((w26.setCell ⟨gb188, 0, none⟩ (.string ((rd_T35 y183 x38_2).f0))).setCell ⟨gb188, 1, none⟩ (.int .i64 ((rd_T35 y183 x38_2).f1))) w.heap.size (fun _ => True) u6 x6_2) := ⟨by (with_reducible repeat (first | apply Kd.R_alloc | apply Kd.R_drewN | apply Kd.R_drew)); exact Kd.R_mono (Kd.R_far (p := ⟨gb188, 1, none⟩) (Kd.R_far (p := ⟨gb188, 0, none⟩) (Kd.R_types HO_6.out BK188.out (by decide)) (fun _ hk => hk.2) (.string ((rd_T35 y183 x38_2).f0))) (fun _ hk => hk.2) (.int .i64 ((rd_T35 y183 x38_2).f1))) (fun _ hk => trivial)⟩
                                have n1_ : Aside0 (((w26.setCell ⟨gb188, 0, none⟩ (.string ((rd_T35 y183 x38_2).f0))).setCell ⟨gb188, 1, none⟩ (.int .i64 ((rd_T35 y183 x38_2).f1))).heap[gb188]? = some (.cells #[.string ((rd_T35 y183 x38_2).f0), .int .i64 ((rd_T35 y183 x38_2).f1)] 35 (0, 0))) := ⟨by (with_reducible repeat (first | refine blk_drewN ?_ _ | refine blk_drew ?_ | refine blk_alloc ?_ _)); refine blk_put (cs := #[.string ((rd_T35 y183 x38_2).f0), .int .i64 0]) ?_ 1 _ rfl; (with_reducible repeat (first | refine blk_drewN ?_ _ | refine blk_drew ?_ | refine blk_alloc ?_ _)); refine blk_put (cs := #[.string (⟨#[]⟩ : ByteArray), .int .i64 0]) ?_ 0 _ rfl; (with_reducible repeat (first | refine blk_drewN ?_ _ | refine blk_drew ?_ | refine blk_alloc ?_ _)); exact BK188.out⟩
                                have n2_ : Aside0 (Below w.heap.size w ((w26.setCell ⟨gb188, 0, none⟩ (.string ((rd_T35 y183 x38_2).f0))).setCell ⟨gb188, 1, none⟩ (.int .i64 ((rd_T35 y183 x38_2).f1)))) := ⟨by repeat (first | (with_reducible first | exact HB.out | apply below_alloc | apply pw_below_drewN | apply below_drew1 | refine below_set ?_ GE188.out) | exact HB.out)⟩
                                (try clear HO_6)
                                (try clear BK188)
                                (try clear HB)
                                generalize ((w26.setCell ⟨gb188, 0, none⟩ (.string ((rd_T35 y183 x38_2).f0))).setCell ⟨gb188, 1, none⟩ (.int .i64 ((rd_T35 y183 x38_2).f1))) = w28 at n0_ n1_ n2_ ⊢
                                have HO_6 := n0_
                                have BK188 := n1_
                                have HB := n2_
                                clear n0_ n1_ n2_
                                have n0_ := Aside0.mk (Kd.R_drew HO_6.out)
                                have n1_ := Aside0.mk (blk_drew BK188.out)
                                have n2_ := Aside0.mk (below_drew1 HB.out)
                                clear HO_6
                                clear BK188
                                clear HB
                                have HO_6 := n0_
                                have BK188 := n1_
                                have HB := n2_
                                clear n0_ n1_ n2_
                                obtain ⟨Ao30, co30, eo30⟩ := Kd.R_slice HO_6.out
                                (first | subst eo30 | (injection eo30 with f1_ f2_ f3_; have f4_ := f1_.symm; have f5_ := f3_.symm; clear f1_ f2_ f3_; subst f4_; subst f5_))
                                have p189 : 0 ≤ (x38_2 : Int) := of_decide_eq_true (by first | (with_reducible assumption) | assumption)
                                have q189 : x38_2 < (x6_2.length : Int) := of_decide_eq_true (by first | (with_reducible assumption) | assumption)
                                obtain ⟨ad189, e189, hx189_0⟩ := Kd.at_int (Kd.R_reads' HO_6.out).2.2 x38_2 p189 q189
                                cases e189
                                replace p189 := eq_true p189
                                replace q189 := eq_true q189
                                have p190 : 0 ≤ (x38_2 : Int) := of_decide_eq_true (by first | (with_reducible assumption) | assumption)
                                have q190 : x38_2 < (l0.length : Int) := of_decide_eq_true (by first | (with_reducible assumption) | assumption)
                                obtain ⟨ad190, e190, hx190_0, hx190_1⟩ := at_T35 HR0.out x38_2 p190 q190
                                have hw190_1 := hx190_1
                                have hw190_0 := hx190_0
                                cases e190
                                replace hx190_0 := (HB.out.cell (World.block_lt_of_cell? w _ hx190_0)).trans hx190_0
                                replace hx190_1 := (HB.out.cell (World.block_lt_of_cell? w _ hx190_1)).trans hx190_1
                                replace p190 := eq_true p190
                                replace q190 := eq_true q190
                                refine start_ (n := 17) (S := fun w' => w'.cell? ⟨gb188, 0, none⟩ = some (.string ((rd_T35 y183 x38_2).f0)) ∧ w'.cell? ⟨gb188, 1, none⟩ = some (.int .i64 ((rd_T35 y183 x38_2).f1)) ∧ w'.cell? (ad189.add (x38_2).toNat) = some (.int .i64 (rd x6_2 x38_2)) ∧ w'.cell? (ad190.add ((x38_2).toNat * 2)) = some (.string ((rd_T35 l0 x38_2).f0)) ∧ w'.cell? ⟨(ad190.add ((x38_2).toNat * 2)).block, (ad190.add ((x38_2).toNat * 2)).off + 1, none⟩ = some (.int .i64 ((rd_T35 l0 x38_2).f1))) (ds := [14, 15]) #[false, false, false, false, false, false, false, false, false, false, false, false, false, false, false, false, false] (by kernel_rfl) rfl rfl ⟨(blk_cell BK188.out 0).trans rfl, (blk_cell BK188.out 1).trans rfl, hx189_0, ((HB.out.cell (World.block_lt_of_cell? w _ hw190_0)).trans hw190_0), ((HB.out.cell (World.block_lt_of_cell? w _ hw190_1)).trans hw190_1)⟩ (fun hHeld => ?_); refine with_tabW rolling_Grams.tab12 rolling_Grams.bits12 (fun HT_ HW_ => ?_)
                                generalize w28.drew = w29 at HO_6 BK188 HB hx189_0 hx190_0 hx190_1 hHeld ⊢
                                refine pure_ (i := 0) (N := some 43) (v := ?_) (a' := ?_) #[true, false, false, false, false, false, false, false, false, false, false, false, false, false, false, false, false] rfl rfl (any_of HT_.out (by kernel_rfl)) (fun _ _ _ h => h) (Or.inl ⟨by rfl, ?_⟩) ?_ ?_
                                rotate_left
                                · intro w'
                                  go_simp
                                  with_reducible rfl
                                rotate_left
                                · simp only [Act.put, List.setIfInBounds_toArray, List.set_cons_zero, List.set_cons_succ, i64_w, i32_w]
                                  rfl
                                refine pure_ (i := 1) (N := some 44) (v := ?_) (a' := ?_) #[true, true, false, false, false, false, false, false, false, false, false, false, false, false, false, false, false] rfl rfl (any_of HT_.out (by kernel_rfl)) (fun _ _ _ h => h) (Or.inl ⟨by rfl, ?_⟩) ?_ ?_
                                rotate_left
                                · intro w'
                                  go_simp
                                  with_reducible rfl
                                rotate_left
                                · simp only [Act.put, List.setIfInBounds_toArray, List.set_cons_zero, List.set_cons_succ, i64_w, i32_w]
                                  rfl
                                refine pure_ (i := 2) (N := some 45) (v := ?_) (a' := ?_) #[true, true, true, false, false, false, false, false, false, false, false, false, false, false, false, false, false] rfl rfl (any_of HT_.out (by kernel_rfl)) (fun _ _ _ h => h) (Or.inl ⟨by rfl, ?_⟩) ?_ ?_
                                rotate_left
                                · intro w'
                                  go_simp
                                  with_reducible rfl
                                rotate_left
                                · simp only [Act.put, List.setIfInBounds_toArray, List.set_cons_zero, List.set_cons_succ, i64_w, i32_w]
                                  rfl
                                refine pure_ (i := 3) (N := some 46) (v := ?_) (a' := ?_) #[true, true, true, true, false, false, false, false, false, false, false, false, false, false, false, false, false] rfl rfl (any_of HT_.out (by kernel_rfl)) (fun _ _ _ h => h) (Or.inl ⟨by rfl, ?_⟩) ?_ ?_
                                rotate_left
                                · intro w'
                                  go_simp
                                  with_reducible rfl
                                rotate_left
                                · simp only [Act.put, List.setIfInBounds_toArray, List.set_cons_zero, List.set_cons_succ, i64_w, i32_w]
                                  rfl
                                refine pure_ (i := 5) (N := some 48) (v := ?_) (a' := ?_) #[true, true, true, true, false, true, false, false, false, false, false, false, false, false, false, false, false] rfl rfl (any_of HT_.out (by kernel_rfl)) (fun _ _ _ h => h) (Or.inl ⟨by rfl, ?_⟩) ?_ ?_
                                rotate_left
                                · intro w'
                                  go_simp
                                  with_reducible rfl
                                rotate_left
                                · simp only [Act.put, List.setIfInBounds_toArray, List.set_cons_zero, List.set_cons_succ, i64_w, i32_w]
                                  rfl
                                refine pure_ (i := 6) (N := some 49) (v := ?_) (a' := ?_) #[true, true, true, true, false, true, true, false, false, false, false, false, false, false, false, false, false] rfl rfl (any_of HT_.out (by kernel_rfl)) (fun _ _ _ h => h) (Or.inl ⟨by rfl, ?_⟩) ?_ ?_
                                rotate_left
                                · intro w'
                                  go_simp
                                  with_reducible rfl
                                rotate_left
                                · simp only [Act.put, List.setIfInBounds_toArray, List.set_cons_zero, List.set_cons_succ, i64_w, i32_w]
                                  rfl
                                refine pure_ (i := 7) (N := some 50) (v := ?_) (a' := ?_) #[true, true, true, true, false, true, true, true, false, false, false, false, false, false, false, false, false] rfl rfl (any_of HT_.out (by kernel_rfl)) (fun _ _ _ h => h) (Or.inl ⟨by rfl, ?_⟩) ?_ ?_
                                rotate_left
                                · intro w'
                                  go_simp
                                  with_reducible rfl
                                rotate_left
                                · simp only [Act.put, List.setIfInBounds_toArray, List.set_cons_zero, List.set_cons_succ, i64_w, i32_w]
                                  rfl
                                refine pure_ (i := 8) (N := some 51) (v := ?_) (a' := ?_) #[true, true, true, true, false, true, true, true, true, false, false, false, false, false, false, false, false] rfl rfl (any_of HT_.out (by kernel_rfl)) (fun _ _ _ h => h) (Or.inl ⟨by rfl, ?_⟩) ?_ ?_
                                rotate_left
                                · intro w'
                                  go_simp
                                  with_reducible rfl
                                rotate_left
                                · simp only [Act.put, List.setIfInBounds_toArray, List.set_cons_zero, List.set_cons_succ, i64_w, i32_w]
                                  rfl
                                refine pure_ (i := 10) (N := some 53) (v := ?_) (a' := ?_) #[true, true, true, true, false, true, true, true, true, false, true, false, false, false, false, false, false] rfl rfl (any_of HT_.out (by kernel_rfl)) (fun _ _ _ h => h) (Or.inl ⟨by rfl, ?_⟩) ?_ ?_
                                rotate_left
                                · intro w'
                                  go_simp
                                  with_reducible rfl
                                rotate_left
                                · simp only [Act.put, List.setIfInBounds_toArray, List.set_cons_zero, List.set_cons_succ, i64_w, i32_w]
                                  rfl
                                refine pure_ (i := 12) (N := some 55) (v := ?_) (a' := ?_) #[true, true, true, true, false, true, true, true, true, false, true, false, true, false, false, false, false] rfl rfl (any_of HT_.out (by kernel_rfl)) (fun _ _ _ h => h) (Or.inl ⟨by rfl, ?_⟩) ?_ ?_
                                rotate_left
                                · intro w'
                                  go_simp
                                  with_reducible rfl
                                rotate_left
                                · simp only [Act.put, List.setIfInBounds_toArray, List.set_cons_zero, List.set_cons_succ, i64_w, i32_w]
                                  rfl
                                refine take_ (i := 4) (N := some 47) (v := ?_) (a' := ?_) #[true, true, true, true, true, true, true, true, true, false, true, false, true, false, false, false, false] rfl rfl (take_ofW HT_.out HW_.out (by kernel_rfl)) (fun _ _ _ h => h) (Or.inl ⟨by rfl, ?_⟩) hHeld ?_ ?_
                                rotate_left
                                · rintro w' ⟨s0, s1, s2, s3, s4⟩
                                  go_simp
                                  with_reducible rfl
                                rotate_left
                                · simp only [Act.put, List.setIfInBounds_toArray, List.set_cons_zero, List.set_cons_succ, i64_w, i32_w]
                                  rfl
                                refine take_ (i := 9) (N := some 52) (v := ?_) (a' := ?_) #[true, true, true, true, true, true, true, true, true, true, true, false, true, false, false, false, false] rfl rfl (take_ofW HT_.out HW_.out (by kernel_rfl)) (fun _ _ _ h => h) (Or.inl ⟨by rfl, ?_⟩) hHeld ?_ ?_
                                rotate_left
                                · rintro w' ⟨s0, s1, s2, s3, s4⟩
                                  go_simp
                                  with_reducible rfl
                                rotate_left
                                · simp only [Act.put, List.setIfInBounds_toArray, List.set_cons_zero, List.set_cons_succ, i64_w, i32_w]
                                  rfl
                                refine take_ (i := 11) (N := some 54) (v := ?_) (a' := ?_) #[true, true, true, true, true, true, true, true, true, true, true, true, true, false, false, false, false] rfl rfl (take_ofW HT_.out HW_.out (by kernel_rfl)) (fun _ _ _ h => h) (Or.inl ⟨by rfl, ?_⟩) hHeld ?_ ?_
                                rotate_left
                                · rintro w' ⟨s0, s1, s2, s3, s4⟩
                                  go_simp
                                  with_reducible rfl
                                rotate_left
                                · simp only [Act.put, List.setIfInBounds_toArray, List.set_cons_zero, List.set_cons_succ, i64_w, i32_w]
                                  rfl
                                refine one_ (i := 13) (N := some 56) #[true, true, true, true, true, true, true, true, true, true, true, true, true, true, false, false, false] rfl rfl (one_of HT_.out (by kernel_rfl)) (by decide) (fun K hK => ?_)
                                refine goes_ Tryz.func92 (by kernel_rfl) rfl #[.int .i64 (rd x6_2 x38_2), .string ((rd_T35 l0 x38_2).f0), .string ((rd_T35 y183 x38_2).f0), .int .i64 t182] (by rfl) rfl rfl (by (try simp only [List.map_toArray, List.map_cons, List.map_nil]); first | done | rfl | (simp only [List.length_drop, List.length_take]; rfl)) ?_
                                with_reducible refine (rolling_roll.calls k2 (rd x6_2 x38_2) ((rd_T35 l0 x38_2).f0) ((rd_T35 y183 x38_2).f0) t182 t191 _ A24.out).mono ?_
                                rintro e w' ⟨rfl, ⟨nd, rfl⟩⟩
                                refine ⟨_, rfl, ?_⟩
                                refine hK.out _ _ ⟨(blk_cell BK188.out 0).trans rfl, (blk_cell BK188.out 1).trans rfl, hHeld.2.2.1, ((HB.out.cell (World.block_lt_of_cell? w _ hw190_0)).trans hw190_0), ((HB.out.cell (World.block_lt_of_cell? w _ hw190_1)).trans hw190_1)⟩ (fun hHeld => ?_)
                                clear hK K
                                refine norm_ (a' := ?_) ?_ ?_
                                rotate_left
                                · show Act.put _ (some 56) _ = _
                                  simp only [Act.put, List.setIfInBounds_toArray, List.set_cons_zero, List.set_cons_succ, i64_w, i32_w]
                                  rfl
                                refine last_ (i := 14) (N := some 57) #[true, true, true, true, true, true, true, true, true, true, true, true, true, true, true, false, false] rfl rfl (one_of HT_.out (by kernel_rfl)) (by decide) (fun K hK => ?_)
                                refine value_ (w1 := ?_) (v := ?_) (by rfl) rfl ?_ ?_
                                rotate_left 2
                                · go_simp
                                  constructor
                                  · rfl
                                  · rfl
                                refine hK.out _ _ ?_
                                clear hK K
                                refine norm_ (a' := ?_) ?_ ?_
                                rotate_left
                                · show Act.put _ (some 57) _ = _
                                  simp only [Act.put, List.setIfInBounds_toArray, List.set_cons_zero, List.set_cons_succ, i64_w, i32_w]
                                  rfl
                                refine last_ (i := 15) (N := some 58) #[true, true, true, true, true, true, true, true, true, true, true, true, true, true, true, true, false] rfl rfl (one_of HT_.out (by kernel_rfl)) (by decide) (fun K hK => ?_)
                                refine Kd.R_append_step (Kd.int .i64) (w0 := w) w.heap.size (by rfl) (.tmp 43) (.tmp 57) 71 3 (.int .i64 0) 8 rfl Tryz.underlying71 info3 rfl (by decide) (by omega) (.slice (some ad189) x6_2.length co30) x6_2 t191 [.int .i64 t191] (fun _ => True) (fun _ => False) rfl rfl ?aP (fun _ hk => hk.elim) ?aF ?aO ?aB ?aS ?aL ?_
                                (case aP => exact rfl)
                                (case aB => exact (by repeat (first | (with_reducible first | exact HB.out | apply below_alloc | apply pw_below_drewN | apply below_drew1 | refine below_set ?_ GE188.out) | exact HB.out)))
                                (case aF => exact (fun _ _ => trivial))
                                (case aO => exact (by (with_reducible repeat (first | apply Kd.R_alloc | apply Kd.R_drewN | apply Kd.R_drew)); exact HO_6.out))
                                (case aS => exact (below_size (by repeat (first | (with_reducible first | exact HB.out | apply below_alloc | apply pw_below_drewN | apply below_drew1 | refine below_set ?_ GE188.out) | exact HB.out))))
                                (case aL => have := LMc25.out; omega)
                                intro v193 w31 ho hb hg hat
                                rw [← Ny192.out] at ho
                                have n0_ := Aside0.mk (blk_grown (g := gb188) (o := .cells #[.string ((rd_T35 y183 x38_2).f0), .int .i64 ((rd_T35 y183 x38_2).f1)] 35 (0, 0)) (by (with_reducible repeat (first | refine blk_drewN ?_ _ | refine blk_drew ?_ | refine blk_alloc ?_ _)); exact BK188.out) hg (Kd.R_ne HO_6.out BK188.out (by decide)))
                                have n1_ := Aside0.mk (hb)
                                have n2_ := Aside0.mk (ho)
                                clear BK188
                                clear HB
                                clear HO_6
                                have BK188 := n0_
                                have HB := n1_
                                have HO194 := n2_
                                clear n0_ n1_ n2_
                                clear ho hb hg hat
                                refine hK.out _ _ ?_
                                clear hK K
                                refine norm_ (a' := ?_) ?_ ?_
                                rotate_left
                                · show Act.put _ (some 58) _ = _
                                  simp only [Act.put, List.setIfInBounds_toArray, List.set_cons_zero, List.set_cons_succ, i64_w, i32_w]
                                  rfl
                                refine pure_ (i := 16) (N := some 6) (v := ?_) (a' := ?_) #[true, true, true, true, true, true, true, true, true, true, true, true, true, true, true, true, true] rfl rfl (any_of HT_.out (by kernel_rfl)) (fun _ _ _ h => h) (Or.inl ⟨by rfl, ?_⟩) ?_ ?_
                                rotate_left
                                · intro w'
                                  go_simp
                                  with_reducible rfl
                                rotate_left
                                · simp only [Act.put, List.setIfInBounds_toArray, List.set_cons_zero, List.set_cons_succ, i64_w, i32_w]
                                  rfl
                                refine done_ (done_of HT_.out (by kernel_rfl)) ?_
                                try go_wp2
                                go_roundg k2
                                case measure => have := HJ2.out; have := HK2.out; omega
                                case rel => exact ⟨(y192), (wrap64 (x38_2 + 1)), (by first | rfl | (simp; done) | (simp [*]; done)), H', ⟨by have := HJ2.out; have := HK2.out; omega⟩, ⟨by (with_reducible repeat (first | apply Kd.R_alloc | apply Kd.R_drewN | apply Kd.R_drew)); exact HO194.out⟩, ⟨by repeat (first | (with_reducible first | exact HB.out | apply below_alloc | apply pw_below_drewN | apply below_drew1 | refine below_set ?_ GE188.out) | exact HB.out)⟩⟩
                              · rw [if_neg c25] at H
                                exact absurd H (by simp)
                            · rw [if_neg c23] at H
                              exact absurd H (by simp)
                          · rw [if_neg c22] at H
                            exact absurd H (by simp)
                        · rw [if_neg c21] at H
                          exact absurd H (by simp)
                      · rw [if_neg c20] at H
                        exact absurd H (by simp)
                    · rw [if_neg c19] at H
                      have c19b0 : decide (x38_2 < (y183.length : Int)) = false := decide_eq_false c19
                      clear c19
                      simp only [Option.some.injEq, Prod.mk.injEq] at H
                      obtain ⟨rfl, rfl⟩ := H
                      go_wp2
                      go_ret2
                      exact ⟨_, by first | rfl | (simp [errW_none, errW_some] <;> rfl) | (simp [*, errW_none, errW_some] <;> rfl), by (with_reducible repeat (first | apply Kd.R_alloc | apply Kd.R_drewN | apply Kd.R_drew)); exact HO_6.out, by repeat (first | (with_reducible first | exact HB.out | apply below_alloc | apply pw_below_drewN | apply below_drew1) | exact HB.out)⟩
              · rw [if_neg c9] at H
                exact absurd H (by simp)
            · rw [if_neg c8] at H
              exact absurd H (by simp)

end Go.Proofs.YtbakoigejihnaaaGreatDoor.Ref
