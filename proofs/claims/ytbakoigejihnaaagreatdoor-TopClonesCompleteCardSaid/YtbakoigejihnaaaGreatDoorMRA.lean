/- Contracts of functions of the program and of Go's library: what they compute. Conditions: as each says. -/
import Derived.Test.YtbakoigejihnaaaGreatDoorMR0
namespace Go.Proofs.YtbakoigejihnaaaGreatDoor.Ref
open Go.RowKit Go.Proofs.YtbakoigejihnaaaGreatDoorW.PrintWords Go.Proofs.YtbakoigejihnaaaGreatDoorW.PrintLast Go.Proofs.YtbakoigejihnaaaGreatDoorW.PrintMore
attribute [local go_sem] max2_int min2_int max_two min_two max_three min_three max_four min_four   -- for this text's walks alone
set_option linter.unusedVariables false
set_option linter.unusedSimpArgs false

/-! ### normalize_blank: function 45 -/
def normalize_blank.f (a0 : Int) : Option (Bool) := if a0 ≤ 32 then (some true) else (some (a0 == 127))
set_option maxHeartbeats 8000000 in
set_option maxRecDepth 100000 in
theorem normalize_blank.calls (a0 : Int) (r : Bool) (w : World) (h : normalize_blank.f a0 = some r) :
    Calls Tryz.prog 45 #[.int .u8 a0] w fun e w' => e = .returned (.bool r) ∧ Drawn0 w w' := by
  have H : (if a0 ≤ 32 then (some true) else (some (a0 == 127))) = some r := h
  clear h
  by_cases c2 : a0 ≤ 32
  · rw [if_pos c2] at H
    have c2b0 : decide (a0 ≤ 32) = true := decide_eq_true c2
    clear c2
    obtain rfl := Option.some.inj H
    go_enter Tryz.func45, Tryz.ntmps45
    go_wp2
    go_ret
    exact ⟨by first | rfl | (simp; done) | (simp [*]; done), by repeat (first | exact Drawn0.refl _ | apply Drawn0.step)⟩
  · rw [if_neg c2] at H
    have c2b0 : decide (a0 ≤ 32) = false := decide_eq_false c2
    clear c2
    obtain rfl := Option.some.inj H
    go_enter Tryz.func45, Tryz.ntmps45
    go_wp2
    go_ret
    exact ⟨by first | rfl | (simp; done) | (simp [*]; done), by repeat (first | exact Drawn0.refl _ | apply Drawn0.step)⟩

/-! ### winnow_size: function 52 -/
def winnow_size.f (a0 : Int) : Option (Bool) := if a0 ≥ 1 then (some (decide (a0 ≤ 1024))) else (some false)
set_option maxHeartbeats 8000000 in
set_option maxRecDepth 100000 in
theorem winnow_size.calls (a0 : Int) (r : Bool) (w : World) (h : winnow_size.f a0 = some r) :
    Calls Tryz.prog 52 #[.int .i64 a0] w fun e w' => e = .returned (.bool r) ∧ Drawn0 w w' := by
  have H : (if a0 ≥ 1 then (some (decide (a0 ≤ 1024))) else (some false)) = some r := h
  clear h
  by_cases c2 : a0 ≥ 1
  · rw [if_pos c2] at H
    have c2b0 : decide (1 ≤ a0) = true := decide_eq_true c2
    clear c2
    obtain rfl := Option.some.inj H
    go_enter Tryz.func52, Tryz.ntmps52
    go_wp2
    go_ret
    exact ⟨by first | rfl | (simp; done) | (simp [*]; done), by repeat (first | exact Drawn0.refl _ | apply Drawn0.step)⟩
  · rw [if_neg c2] at H
    have c2b0 : decide (1 ≤ a0) = false := decide_eq_false c2
    clear c2
    obtain rfl := Option.some.inj H
    go_enter Tryz.func52, Tryz.ntmps52
    go_wp2
    go_ret
    exact ⟨by first | rfl | (simp; done) | (simp [*]; done), by repeat (first | exact Drawn0.refl _ | apply Drawn0.step)⟩

/-! ### rolling_add: function 132 -/
def rolling_add.f (a0 : Int) (a1 : Int) : Option (Int) := if (wrap64 (a0 + a1)) ≥ 2305843009213693951 then (if (wrap64 ((wrap64 (a0 + a1)) - 2305843009213693951)) ≥ 2305843009213693951 then (some (wrap64 ((wrap64 ((wrap64 (a0 + a1)) - 2305843009213693951)) - 2305843009213693951))) else (some (wrap64 ((wrap64 (a0 + a1)) - 2305843009213693951)))) else (some (wrap64 (a0 + a1)))
set_option maxHeartbeats 8000000 in
set_option maxRecDepth 100000 in
theorem rolling_add.calls (a0 : Int) (a1 : Int) (r : Int) (w : World) (h : rolling_add.f a0 a1 = some r) :
    Calls Tryz.prog 132 #[.int .i64 a0, .int .i64 a1] w fun e w' => e = .returned (.int .i64 r) ∧ Drawn0 w w' := by
  have H : (if (wrap64 (a0 + a1)) ≥ 2305843009213693951 then (if (wrap64 ((wrap64 (a0 + a1)) - 2305843009213693951)) ≥ 2305843009213693951 then (some (wrap64 ((wrap64 ((wrap64 (a0 + a1)) - 2305843009213693951)) - 2305843009213693951))) else (some (wrap64 ((wrap64 (a0 + a1)) - 2305843009213693951)))) else (some (wrap64 (a0 + a1)))) = some r := h
  clear h
  by_cases c3 : (wrap64 (a0 + a1)) ≥ 2305843009213693951
  · rw [if_pos c3] at H
    have c3b0 : decide (2305843009213693951 ≤ (wrap64 (a0 + a1))) = true := decide_eq_true c3
    clear c3
    by_cases c4 : (wrap64 ((wrap64 (a0 + a1)) - 2305843009213693951)) ≥ 2305843009213693951
    · rw [if_pos c4] at H
      have c4b0 : decide (2305843009213693951 ≤ (wrap64 ((wrap64 (a0 + a1)) - 2305843009213693951))) = true := decide_eq_true c4
      clear c4
      obtain rfl := Option.some.inj H
      go_enter Tryz.func132, Tryz.ntmps132
      go_wp2
      go_ret
      exact ⟨by first | rfl | (simp; done) | (simp [*]; done), by repeat (first | exact Drawn0.refl _ | apply Drawn0.step)⟩
    · rw [if_neg c4] at H
      have c4b0 : decide (2305843009213693951 ≤ (wrap64 ((wrap64 (a0 + a1)) - 2305843009213693951))) = false := decide_eq_false c4
      clear c4
      obtain rfl := Option.some.inj H
      go_enter Tryz.func132, Tryz.ntmps132
      go_wp2
      go_ret
      exact ⟨by first | rfl | (simp; done) | (simp [*]; done), by repeat (first | exact Drawn0.refl _ | apply Drawn0.step)⟩
  · rw [if_neg c3] at H
    have c3b0 : decide (2305843009213693951 ≤ (wrap64 (a0 + a1))) = false := decide_eq_false c3
    clear c3
    obtain rfl := Option.some.inj H
    go_enter Tryz.func132, Tryz.ntmps132
    go_wp2
    go_ret
    exact ⟨by first | rfl | (simp; done) | (simp [*]; done), by repeat (first | exact Drawn0.refl _ | apply Drawn0.step)⟩

/-! ### bits_Mul64: function 155 -/
def bits_Mul64.f (a0 : Int) (a1 : Int) : Option (Int × Int) := some (IntKind.u64.wrap ((IntKind.u64.wrap ((IntKind.u64.wrap ((a0 / 4294967296) * (a1 / 4294967296))) + ((IntKind.u64.wrap ((IntKind.u64.wrap ((a0 / 4294967296) * (Go.bits .and .u64 a1 4294967295))) + ((IntKind.u64.wrap ((Go.bits .and .u64 a0 4294967295) * (Go.bits .and .u64 a1 4294967295))) / 4294967296))) / 4294967296))) + ((IntKind.u64.wrap ((Go.bits .and .u64 (IntKind.u64.wrap ((IntKind.u64.wrap ((a0 / 4294967296) * (Go.bits .and .u64 a1 4294967295))) + ((IntKind.u64.wrap ((Go.bits .and .u64 a0 4294967295) * (Go.bits .and .u64 a1 4294967295))) / 4294967296))) 4294967295) + (IntKind.u64.wrap ((Go.bits .and .u64 a0 4294967295) * (a1 / 4294967296))))) / 4294967296)), IntKind.u64.wrap (a0 * a1))
set_option maxHeartbeats 8000000 in
set_option maxRecDepth 100000 in
theorem bits_Mul64.calls (a0 : Int) (a1 : Int) (r1 : Int) (r2 : Int) (w : World) (h : bits_Mul64.f a0 a1 = some (r1, r2)) :
    Calls Tryz.prog 155 #[.int .u64 a0, .int .u64 a1] w fun e w' => e = .returned (.tuple #[.int .u64 r1, .int .u64 r2]) ∧ Drawn0 w w' := by
  have H : (some (IntKind.u64.wrap ((IntKind.u64.wrap ((IntKind.u64.wrap ((a0 / 4294967296) * (a1 / 4294967296))) + ((IntKind.u64.wrap ((IntKind.u64.wrap ((a0 / 4294967296) * (Go.bits .and .u64 a1 4294967295))) + ((IntKind.u64.wrap ((Go.bits .and .u64 a0 4294967295) * (Go.bits .and .u64 a1 4294967295))) / 4294967296))) / 4294967296))) + ((IntKind.u64.wrap ((Go.bits .and .u64 (IntKind.u64.wrap ((IntKind.u64.wrap ((a0 / 4294967296) * (Go.bits .and .u64 a1 4294967295))) + ((IntKind.u64.wrap ((Go.bits .and .u64 a0 4294967295) * (Go.bits .and .u64 a1 4294967295))) / 4294967296))) 4294967295) + (IntKind.u64.wrap ((Go.bits .and .u64 a0 4294967295) * (a1 / 4294967296))))) / 4294967296)), IntKind.u64.wrap (a0 * a1))) = some (r1, r2) := h
  clear h
  simp only [Option.some.injEq, Prod.mk.injEq] at H
  obtain ⟨rfl, rfl⟩ := H
  go_enter Tryz.func155, Tryz.ntmps155
  go_wp2
  go_ret2
  exact ⟨by first | rfl | (simp; done) | (simp [*]; done), by repeat (first | exact Drawn0.refl _ | apply Drawn0.step)⟩

/-! ### rolling_mul: function 131 -/
def rolling_mul.f (a0 : Int) (a1 : Int) : Option (Int) := (bits_Mul64.f (IntKind.u64.wrap (a0)) (IntKind.u64.wrap (a1))).bind fun bt154 => ((rolling_add.f (wrap64 (Go.bits .and .u64 bt154.2 2305843009213693951)) (wrap64 (Go.bits .or .u64 (IntKind.u64.wrap (bt154.1 * 8)) (bt154.2 / 2305843009213693952)))).bind fun t156 => (some t156))
set_option maxHeartbeats 8000000 in
set_option maxRecDepth 100000 in
theorem rolling_mul.calls (a0 : Int) (a1 : Int) (r : Int) (w : World) (h : rolling_mul.f a0 a1 = some r) :
    Calls Tryz.prog 131 #[.int .i64 a0, .int .i64 a1] w fun e w' => e = .returned (.int .i64 r) ∧ Drawn0 w w' := by
  have H : ((bits_Mul64.f (IntKind.u64.wrap (a0)) (IntKind.u64.wrap (a1))).bind fun bt154 => ((rolling_add.f (wrap64 (Go.bits .and .u64 bt154.2 2305843009213693951)) (wrap64 (Go.bits .or .u64 (IntKind.u64.wrap (bt154.1 * 8)) (bt154.2 / 2305843009213693952)))).bind fun t156 => (some t156))) = some r := h
  clear h
  replace H := Option.bind_eq_some_iff.mp H
  obtain ⟨⟨t154, t155⟩, A30, H⟩ := H
  replace H : ((rolling_add.f (wrap64 (Go.bits .and .u64 t155 2305843009213693951)) (wrap64 (Go.bits .or .u64 (IntKind.u64.wrap (t154 * 8)) (t155 / 2305843009213693952)))).bind fun t156 => (some t156)) = some r := H
  have A3 := Aside0.mk A30
  clear A30
  replace H := Option.bind_eq_some_iff.mp H
  obtain ⟨t156, A40, H⟩ := H
  replace H : (some t156) = some r := H
  have A4 := Aside0.mk A40
  clear A40
  obtain rfl := Option.some.inj H
  go_enter Tryz.func131, Tryz.ntmps131
  go_wp2_with (first | ((with_reducible refine gate_callee (f := 155) rfl ?_); refine goesL_ (some 12) rfl rfl Tryz.func155 (by kernel_rfl) rfl #[.int .u64 (IntKind.u64.wrap (a0)), .int .u64 (IntKind.u64.wrap (a1))] rfl (by (try simp only [List.map_toArray, List.map_cons, List.map_nil]); first | done | rfl | (simp only [List.length_drop, List.length_take]; rfl)) ?_; (with_reducible refine (bits_Mul64.calls (IntKind.u64.wrap (a0)) (IntKind.u64.wrap (a1)) t154 t155 _ A3.out).mono ?_); rintro e w' ⟨rfl, ⟨nd, rfl⟩⟩; refine ⟨_, rfl, ?_⟩) | ((with_reducible refine gate_callee (f := 132) rfl ?_); refine goesL_ (some 24) rfl rfl Tryz.func132 (by kernel_rfl) rfl #[.int .i64 (wrap64 (Go.bits .and .u64 t155 2305843009213693951)), .int .i64 (wrap64 (Go.bits .or .u64 (IntKind.u64.wrap (t154 * 8)) (t155 / 2305843009213693952)))] rfl (by (try simp only [List.map_toArray, List.map_cons, List.map_nil]); first | done | rfl | (simp only [List.length_drop, List.length_take]; rfl)) ?_; (with_reducible refine (rolling_add.calls (wrap64 (Go.bits .and .u64 t155 2305843009213693951)) (wrap64 (Go.bits .or .u64 (IntKind.u64.wrap (t154 * 8)) (t155 / 2305843009213693952))) t156 _ A4.out).mono ?_); rintro e w' ⟨rfl, ⟨nd, rfl⟩⟩; refine ⟨_, rfl, ?_⟩))
  go_ret
  exact ⟨by first | rfl | (simp; done) | (simp [*]; done), by repeat (first | exact Drawn0.refl _ | apply Drawn0.step)⟩

/-! ### rolling_Code: function 133 -/
def rolling_Code.l0 : Nat → ByteArray → Int → Int → Int → Option (Int)
  | 0, _, _, _, _ => none
  | k + 1, x0, x3, x6, x7 => if x7 < x6 then ((rolling_mul.f 257 x3).bind fun t157 => (if 0 ≤ x7 then (if x7 < (x0.size : Int) then ((rolling_add.f t157 (wrap64 ((wrap64 (bt x0 x7)) + 1))).bind fun t158 => (rolling_Code.l0 k x0 t158 x6 (wrap64 (x7 + 1)))) else (none)) else (none))) else (some x3)
def rolling_Code.f (k : Nat) (a0 : ByteArray) : Option (Int) := rolling_Code.l0 k a0 0 (a0.size : Int) 0
theorem rolling_Code.mono_l : ∀ k, (∀ y0 y1 y2 y3, LeO (rolling_Code.l0 k y0 y1 y2 y3) (rolling_Code.l0 (k + 1) y0 y1 y2 y3))
  | 0 => fun _ _ _ _ r h => by simp [rolling_Code.l0] at h
  | k + 1 => by
    have ih0 := rolling_Code.mono_l k
    · intro y0 y1 y2 y3
      unfold rolling_Code.l0
      repeat' first
      | (with_reducible exact ih0 _ _ _ _)
      | (with_reducible exact LeO.refl _)
      | (with_reducible exact LeO.none _)
      | (with_reducible refine LeO.ite ?_ ?_)
      | (with_reducible refine LeO.bind ?_ (fun _ => ?_))
      | exact ih0 _ _ _ _
      | exact LeO.none _
      | refine LeO.ite ?_ ?_
      | refine LeO.bind ?_ (fun _ => ?_)
theorem rolling_Code.mono : ∀ a0 k, LeO (rolling_Code.f k a0) (rolling_Code.f (k + 1) a0) := by
  intro a0 k
  have ih0 := rolling_Code.mono_l k
  unfold rolling_Code.f
  repeat' first
      | (with_reducible exact ih0 _ _ _ _)
      | (with_reducible exact LeO.refl _)
      | (with_reducible exact LeO.none _)
      | (with_reducible refine LeO.ite ?_ ?_)
      | (with_reducible refine LeO.bind ?_ (fun _ => ?_))
      | exact ih0 _ _ _ _
      | exact LeO.none _
      | refine LeO.ite ?_ ?_
      | refine LeO.bind ?_ (fun _ => ?_)
set_option maxHeartbeats 8000000 in
set_option maxRecDepth 100000 in
theorem rolling_Code.calls (k : Nat) (a0 : ByteArray) (r : Int) (w : World) (h : rolling_Code.f k a0 = some r) :
    Calls Tryz.prog 133 #[.string a0] w fun e w' => e = .returned (.int .i64 r) ∧ Drawn0 w w' := by
  have H : (rolling_Code.l0 k a0 0 (a0.size : Int) 0) = some r := h
  clear h
  have H' := Aside0.mk H
  clear H
  go_enter Tryz.func133, Tryz.ntmps133
  go_wp2
  repeat (go_quiet (fail); try go_wp2)
  go_loopg [3, 7] k (fun kq v3 v7 w' => ∃ (x3_1 : Int) (x7_1 : Int), v3 = .int .i64 x3_1 ∧ v7 = .int .i64 x7_1 ∧ Aside0 (rolling_Code.l0 kq a0 x3_1 (a0.size : Int) x7_1 = some r) ∧ Aside0 (kq ≤ k) ∧ Drawn0 w w')
  case atStart => exact ⟨(0), (0), (by first | rfl | (simp; done) | (simp [*]; done)), (by first | rfl | (simp; done) | (simp [*]; done)), H', ⟨Nat.le_refl _⟩, by repeat (first | exact Drawn0.refl _ | apply Drawn0.step)⟩
  case round =>
    clear H'
    try clear c1
    obtain ⟨x3_1, x7_1, rfl, rfl, HA, HK1, ⟨m1, rfl⟩⟩ := hrel
    cases gk with
    | zero => exact absurd HA.out (by simp [rolling_Code.l0])
    | succ k1 =>
      have H := HA.out
      clear HA
      simp only [rolling_Code.l0] at H
      by_cases c2 : x7_1 < (a0.size : Int)
      · rw [if_pos c2] at H
        have c2b0 : decide (x7_1 < (a0.size : Int)) = true := decide_eq_true c2
        clear c2
        replace H := Option.bind_eq_some_iff.mp H
        obtain ⟨t157, A30, H⟩ := H
        replace H : (if 0 ≤ x7_1 then (if x7_1 < (a0.size : Int) then ((rolling_add.f t157 (wrap64 ((wrap64 (bt a0 x7_1)) + 1))).bind fun t158 => (rolling_Code.l0 k1 a0 t158 (a0.size : Int) (wrap64 (x7_1 + 1)))) else (none)) else (none)) = some r := H
        have A3 := Aside0.mk A30
        clear A30
        by_cases c4 : 0 ≤ x7_1
        · rw [if_pos c4] at H
          have c4b0 : decide (0 ≤ x7_1) = true := decide_eq_true c4
          clear c4
          by_cases c5 : x7_1 < (a0.size : Int)
          · rw [if_pos c5] at H
            have c5b0 : decide (x7_1 < (a0.size : Int)) = true := decide_eq_true c5
            clear c5
            replace H := Option.bind_eq_some_iff.mp H
            obtain ⟨t158, A70, H⟩ := H
            replace H : (rolling_Code.l0 k1 a0 t158 (a0.size : Int) (wrap64 (x7_1 + 1))) = some r := H
            have A7 := Aside0.mk A70
            clear A70
            have H' := Aside0.mk H
            clear H
            have p6 : 0 ≤ (x7_1 : Int) := of_decide_eq_true c4b0
            have q6 : x7_1 < (a0.size : Int) := of_decide_eq_true c5b0
            have hx6 := bt_at a0 x7_1
            go_wp2_with fail
            go_quiet ((first | (go_at_call 131; exact quiet2 (rolling_mul.calls 257 x3_1 t157 _ A3.out)) | (go_at_call 132; exact quiet2 (rolling_add.calls t157 (wrap64 ((wrap64 (bt a0 x7_1)) + 1)) t158 _ A7.out))))
            try go_wp2
            go_roundg k1
            case measure => have := HK1.out; omega
            case rel => exact ⟨(t158), (wrap64 (x7_1 + 1)), (by first | rfl | (simp; done) | (simp [*]; done)), (by first | rfl | (simp; done) | (simp [*]; done)), H', ⟨by have := HK1.out; omega⟩, by repeat (first | exact Drawn0.refl _ | apply Drawn0.step)⟩
          · rw [if_neg c5] at H
            exact absurd H (by simp)
        · rw [if_neg c4] at H
          exact absurd H (by simp)
      · rw [if_neg c2] at H
        have c2b0 : decide (x7_1 < (a0.size : Int)) = false := decide_eq_false c2
        clear c2
        obtain rfl := Option.some.inj H
        go_wp2
        repeat (go_quiet (fail); try go_wp2)
        go_ret
        exact ⟨by first | rfl | (simp; done) | (simp [*]; done), by repeat (first | exact Drawn0.refl _ | apply Drawn0.step)⟩

/-! ### rolling_push: function 130 -/
def rolling_push.f (k : Nat) (a0 : Int) (a1 : ByteArray) : Option (Int) := (rolling_mul.f 1000003 a0).bind fun t159 => ((rolling_Code.f k a1).bind fun t160 => ((rolling_add.f t160 1).bind fun t161 => ((rolling_add.f t159 t161).bind fun t162 => (some t162))))
theorem rolling_push.mono : ∀ a0 a1 k, LeO (rolling_push.f k a0 a1) (rolling_push.f (k + 1) a0 a1) := by
  intro a0 a1 k
  unfold rolling_push.f
  repeat' first
      | (with_reducible exact rolling_Code.mono _ _)
      | (with_reducible exact LeO.refl _)
      | (with_reducible exact LeO.none _)
      | (with_reducible refine LeO.ite ?_ ?_)
      | (with_reducible refine LeO.bind ?_ (fun _ => ?_))
      | exact rolling_Code.mono _ _
      | exact LeO.none _
      | refine LeO.ite ?_ ?_
      | refine LeO.bind ?_ (fun _ => ?_)
set_option maxHeartbeats 8000000 in
set_option maxRecDepth 100000 in
theorem rolling_push.calls (k : Nat) (a0 : Int) (a1 : ByteArray) (r : Int) (w : World) (h : rolling_push.f k a0 a1 = some r) :
    Calls Tryz.prog 130 #[.int .i64 a0, .string a1] w fun e w' => e = .returned (.int .i64 r) ∧ Drawn0 w w' := by
  have H : ((rolling_mul.f 1000003 a0).bind fun t159 => ((rolling_Code.f k a1).bind fun t160 => ((rolling_add.f t160 1).bind fun t161 => ((rolling_add.f t159 t161).bind fun t162 => (some t162))))) = some r := h
  clear h
  replace H := Option.bind_eq_some_iff.mp H
  obtain ⟨t159, A30, H⟩ := H
  replace H : ((rolling_Code.f k a1).bind fun t160 => ((rolling_add.f t160 1).bind fun t161 => ((rolling_add.f t159 t161).bind fun t162 => (some t162)))) = some r := H
  have A3 := Aside0.mk A30
  clear A30
  replace H := Option.bind_eq_some_iff.mp H
  obtain ⟨t160, A40, H⟩ := H
  replace H : ((rolling_add.f t160 1).bind fun t161 => ((rolling_add.f t159 t161).bind fun t162 => (some t162))) = some r := H
  have A4 := Aside0.mk A40
  clear A40
  replace H := Option.bind_eq_some_iff.mp H
  obtain ⟨t161, A50, H⟩ := H
  replace H : ((rolling_add.f t159 t161).bind fun t162 => (some t162)) = some r := H
  have A5 := Aside0.mk A50
  clear A50
  replace H := Option.bind_eq_some_iff.mp H
  obtain ⟨t162, A60, H⟩ := H
  replace H : (some t162) = some r := H
  have A6 := Aside0.mk A60
  clear A60
  obtain rfl := Option.some.inj H
  go_enter Tryz.func130, Tryz.ntmps130
  go_wp2_with (first | ((with_reducible refine gate_callee (f := 131) rfl ?_); refine goesL_ (some 6) rfl rfl Tryz.func131 (by kernel_rfl) rfl #[.int .i64 1000003, .int .i64 a0] rfl (by (try simp only [List.map_toArray, List.map_cons, List.map_nil]); first | done | rfl | (simp only [List.length_drop, List.length_take]; rfl)) ?_; (with_reducible refine (rolling_mul.calls 1000003 a0 t159 _ A3.out).mono ?_); rintro e w' ⟨rfl, ⟨nd, rfl⟩⟩; refine ⟨_, rfl, ?_⟩) | ((with_reducible refine gate_callee (f := 133) rfl ?_); refine goesL_ (some 8) rfl rfl Tryz.func133 (by kernel_rfl) rfl #[.string a1] rfl (by (try simp only [List.map_toArray, List.map_cons, List.map_nil]); first | done | rfl | (simp only [List.length_drop, List.length_take]; rfl)) ?_; (with_reducible refine (rolling_Code.calls k a1 t160 _ A4.out).mono ?_); rintro e w' ⟨rfl, ⟨nd, rfl⟩⟩; refine ⟨_, rfl, ?_⟩) | ((with_reducible refine gate_callee (f := 132) rfl ?_); refine goesL_ (some 9) rfl rfl Tryz.func132 (by kernel_rfl) rfl #[.int .i64 t160, .int .i64 1] rfl (by (try simp only [List.map_toArray, List.map_cons, List.map_nil]); first | done | rfl | (simp only [List.length_drop, List.length_take]; rfl)) ?_; (with_reducible refine (rolling_add.calls t160 1 t161 _ A5.out).mono ?_); rintro e w' ⟨rfl, ⟨nd, rfl⟩⟩; refine ⟨_, rfl, ?_⟩) | ((with_reducible refine gate_callee (f := 132) rfl ?_); refine goesL_ (some 10) rfl rfl Tryz.func132 (by kernel_rfl) rfl #[.int .i64 t159, .int .i64 t161] rfl (by (try simp only [List.map_toArray, List.map_cons, List.map_nil]); first | done | rfl | (simp only [List.length_drop, List.length_take]; rfl)) ?_; (with_reducible refine (rolling_add.calls t159 t161 t162 _ A6.out).mono ?_); rintro e w' ⟨rfl, ⟨nd, rfl⟩⟩; refine ⟨_, rfl, ?_⟩))
  go_ret
  exact ⟨by first | rfl | (simp; done) | (simp [*]; done), by repeat (first | exact Drawn0.refl _ | apply Drawn0.step)⟩

/-! ### rolling_Hash: function 90 -/
def rolling_Hash.l0 : Nat → Int → List (S35) → Int → Int → Option (Int)
  | 0, _, _, _, _ => none
  | k + 1, x3, x6, x7, x8 => if x8 < x7 then (if 0 ≤ x8 then (if x8 < (x6.length : Int) then ((rolling_push.f k x3 ((rd_T35 x6 x8).f0)).bind fun t165 => (rolling_Hash.l0 k t165 x6 x7 (wrap64 (x8 + 1)))) else (none)) else (none)) else (some x3)
def rolling_Hash.f (k : Nat) (l0 : List (S35)) : Option (Int) := rolling_Hash.l0 k 0 l0 (l0.length : Int) 0
theorem rolling_Hash.mono_l : ∀ k, (∀ y0 y1 y2 y3, LeO (rolling_Hash.l0 k y0 y1 y2 y3) (rolling_Hash.l0 (k + 1) y0 y1 y2 y3))
  | 0 => fun _ _ _ _ r h => by simp [rolling_Hash.l0] at h
  | k + 1 => by
    have ih0 := rolling_Hash.mono_l k
    · intro y0 y1 y2 y3
      unfold rolling_Hash.l0
      repeat' first
      | (with_reducible exact ih0 _ _ _ _)
      | (with_reducible exact rolling_push.mono _ _ _)
      | (with_reducible exact LeO.refl _)
      | (with_reducible exact LeO.none _)
      | (with_reducible refine LeO.ite ?_ ?_)
      | (with_reducible refine LeO.bind ?_ (fun _ => ?_))
      | exact ih0 _ _ _ _
      | exact rolling_push.mono _ _ _
      | exact LeO.none _
      | refine LeO.ite ?_ ?_
      | refine LeO.bind ?_ (fun _ => ?_)
theorem rolling_Hash.mono : ∀ a0 k, LeO (rolling_Hash.f k a0) (rolling_Hash.f (k + 1) a0) := by
  intro a0 k
  have ih0 := rolling_Hash.mono_l k
  unfold rolling_Hash.f
  repeat' first
      | (with_reducible exact ih0 _ _ _ _)
      | (with_reducible exact rolling_push.mono _ _ _)
      | (with_reducible exact LeO.refl _)
      | (with_reducible exact LeO.none _)
      | (with_reducible refine LeO.ite ?_ ?_)
      | (with_reducible refine LeO.bind ?_ (fun _ => ?_))
      | exact ih0 _ _ _ _
      | exact rolling_push.mono _ _ _
      | exact LeO.none _
      | refine LeO.ite ?_ ?_
      | refine LeO.bind ?_ (fun _ => ?_)
set_option maxHeartbeats 8000000 in
set_option maxRecDepth 100000 in
theorem rolling_Hash.calls (k : Nat) (A0 : Option Addr) (c0 : Nat) (l0 : List (S35)) (r : Int) (w : World) (hr0 : Kd.C k35 w A0 l0.length l0) (hc0 : l0.length ≤ c0) (h : rolling_Hash.f k l0 = some r) :
    Calls Tryz.prog 90 #[.slice A0 l0.length c0] w fun e w' => e = .returned (.int .i64 r) ∧ Below w.heap.size w w' := by
  have hu35 := Tryz.underlying35
  have HR0 := Aside0.mk hr0
  have HC0 := Aside0.mk hc0
  clear hr0 hc0
  have HB := Aside0.mk (Below.refl w.heap.size w)
  have H : (rolling_Hash.l0 k 0 l0 (l0.length : Int) 0) = some r := h
  clear h
  have H' := Aside0.mk H
  clear H
  go_enter Tryz.func90, Tryz.ntmps90
  go_wp2
  go_loopg [3, 8] k (fun kq v3 v8 w' => ∃ (x3_1 : Int) (x8_1 : Int), v3 = .int .i64 x3_1 ∧ v8 = .int .i64 x8_1 ∧ Aside0 (rolling_Hash.l0 kq x3_1 l0 (l0.length : Int) x8_1 = some r) ∧ Aside0 (kq ≤ k) ∧ Aside0 (Below w.heap.size w w'))
  case atStart => exact ⟨(0), (0), (by first | rfl | (simp; done) | (simp [*]; done)), (by first | rfl | (simp; done) | (simp [*]; done)), H', ⟨Nat.le_refl _⟩, ⟨by repeat (first | (with_reducible first | exact HB.out | apply below_alloc | apply pw_below_drewN | apply below_drew1) | exact HB.out)⟩⟩
  case round =>
    clear H'
    obtain ⟨x3_1, x8_1, rfl, rfl, HA, HK1, HB⟩ := hrel
    cases gk with
    | zero => exact absurd HA.out (by simp [rolling_Hash.l0])
    | succ k1 =>
      have H := HA.out
      clear HA
      simp only [rolling_Hash.l0] at H
      by_cases c2 : x8_1 < (l0.length : Int)
      · rw [if_pos c2] at H
        have c2b0 : decide (x8_1 < (l0.length : Int)) = true := decide_eq_true c2
        clear c2
        by_cases c3 : 0 ≤ x8_1
        · rw [if_pos c3] at H
          have c3b0 : decide (0 ≤ x8_1) = true := decide_eq_true c3
          clear c3
          by_cases c4 : x8_1 < (l0.length : Int)
          · rw [if_pos c4] at H
            have c4b0 : decide (x8_1 < (l0.length : Int)) = true := decide_eq_true c4
            clear c4
            replace H := Option.bind_eq_some_iff.mp H
            obtain ⟨t165, A50, H⟩ := H
            replace H : (rolling_Hash.l0 k1 t165 l0 (l0.length : Int) (wrap64 (x8_1 + 1))) = some r := H
            have A5 := Aside0.mk A50
            clear A50
            have H' := Aside0.mk H
            clear H
            have p163 : 0 ≤ (x8_1 : Int) := of_decide_eq_true (by first | (with_reducible assumption) | assumption)
            have q163 : x8_1 < (l0.length : Int) := of_decide_eq_true (by first | (with_reducible assumption) | assumption)
            obtain ⟨ad163, e163, hx163_0, hx163_1⟩ := at_T35 HR0.out x8_1 p163 q163
            cases e163
            replace hx163_0 := (HB.out.cell (World.block_lt_of_cell? w _ hx163_0)).trans hx163_0
            replace hx163_1 := (HB.out.cell (World.block_lt_of_cell? w _ hx163_1)).trans hx163_1
            replace p163 := eq_true p163
            replace q163 := eq_true q163
            go_wp2_with (first | ((with_reducible refine gate_dst (N := 5) rfl ?_); refine box_event ?hg (N := 5) ?hd (cs := #[.string (⟨#[]⟩ : ByteArray), .int .i64 0]) (t := 35) ?hr ?_; (case hd => rfl); (case hg => rfl); (case hr => first | (go_simp; done) | (go_simp; rfl)); intro gb164 hg w6 hbox hb; have n0_ := Aside0.mk (below_step (by repeat (first | (with_reducible first | exact HB.out | apply below_alloc | apply pw_below_drewN | apply below_drew1) | exact HB.out)) hb); have n1_ := Aside0.mk (hbox); have n2_ := Aside0.mk ((by rw [hg]; exact (below_size (by repeat (first | (with_reducible first | exact HB.out | apply below_alloc | apply pw_below_drewN | apply below_drew1) | exact HB.out))) : w.heap.size ≤ gb164)); have n3_ := Aside0.mk ((by rw [hg]; exact (below_size (by repeat (first | (with_reducible first | exact HB.out | apply below_alloc | apply pw_below_drewN | apply below_drew1) | exact HB.out))) : w.heap.size ≤ gb164)); clear HB; have HB := n0_; have BK164 := n1_; have GW164 := n2_; have GE164 := n3_; clear n0_ n1_ n2_ n3_; clear hb hbox hg; have hcz7_0 : w6.cell? ⟨gb164, 0, none⟩ = some (.string (⟨#[]⟩ : ByteArray)) := (blk_cell BK164.out 0).trans rfl; have hcz7_1 : w6.cell? ⟨gb164, 1, none⟩ = some (.int .i64 0) := (blk_cell BK164.out 1).trans rfl; have hfz7_0 := blk_frozen BK164.out 0; have hfz7_1 := blk_frozen BK164.out 1) | ((with_reducible refine gate_callee (f := 130) rfl ?_); refine goesL_ (some 15) rfl rfl Tryz.func130 (by kernel_rfl) rfl #[.int .i64 x3_1, .string ((rd_T35 l0 x8_1).f0)] rfl (by (try simp only [List.map_toArray, List.map_cons, List.map_nil]); first | done | rfl | (simp only [List.length_drop, List.length_take]; rfl)) ?_; (with_reducible refine (rolling_push.calls k1 x3_1 ((rd_T35 l0 x8_1).f0) t165 _ A5.out).mono ?_); rintro e w' ⟨rfl, ⟨nd, rfl⟩⟩; refine ⟨_, rfl, ?_⟩))
            go_roundg k1
            case measure => have := HK1.out; omega
            case rel => exact ⟨(t165), (wrap64 (x8_1 + 1)), (by first | rfl | (simp; done) | (simp [*]; done)), (by first | rfl | (simp; done) | (simp [*]; done)), H', ⟨by have := HK1.out; omega⟩, ⟨by repeat (first | (with_reducible first | exact HB.out | apply below_alloc | apply pw_below_drewN | apply below_drew1 | refine below_set ?_ GE164.out) | exact HB.out)⟩⟩
          · rw [if_neg c4] at H
            exact absurd H (by simp)
        · rw [if_neg c3] at H
          exact absurd H (by simp)
      · rw [if_neg c2] at H
        have c2b0 : decide (x8_1 < (l0.length : Int)) = false := decide_eq_false c2
        clear c2
        obtain rfl := Option.some.inj H
        go_wp2
        go_ret
        exact ⟨by first | rfl | (simp [errW_none, errW_some] <;> rfl) | (simp [*, errW_none, errW_some] <;> rfl), by repeat (first | (with_reducible first | exact HB.out | apply below_alloc | apply pw_below_drewN | apply below_drew1) | exact HB.out)⟩

/-! ### rolling_power: function 91 -/
def rolling_power.l0 : Nat → Int → Int → Int → Option (Int)
  | 0, _, _, _ => none
  | k + 1, x0, x3, x4 => if x0 > 0 then (if (Int.tmod x0 2) = 1 then ((rolling_mul.f x3 x4).bind fun t166 => ((rolling_mul.f x4 x4).bind fun t167 => (rolling_power.l0 k (wrap64 (Int.tdiv x0 2)) t166 t167))) else ((rolling_mul.f x4 x4).bind fun t168 => (rolling_power.l0 k (wrap64 (Int.tdiv x0 2)) x3 t168))) else (some x3)
def rolling_power.f (k : Nat) (a0 : Int) : Option (Int) := rolling_power.l0 k a0 1 1000003
theorem rolling_power.mono_l : ∀ k, (∀ y0 y1 y2, LeO (rolling_power.l0 k y0 y1 y2) (rolling_power.l0 (k + 1) y0 y1 y2))
  | 0 => fun _ _ _ r h => by simp [rolling_power.l0] at h
  | k + 1 => by
    have ih0 := rolling_power.mono_l k
    · intro y0 y1 y2
      unfold rolling_power.l0
      repeat' first
      | (with_reducible exact ih0 _ _ _)
      | (with_reducible exact LeO.refl _)
      | (with_reducible exact LeO.none _)
      | (with_reducible refine LeO.ite ?_ ?_)
      | (with_reducible refine LeO.bind ?_ (fun _ => ?_))
      | exact ih0 _ _ _
      | exact LeO.none _
      | refine LeO.ite ?_ ?_
      | refine LeO.bind ?_ (fun _ => ?_)
theorem rolling_power.mono : ∀ a0 k, LeO (rolling_power.f k a0) (rolling_power.f (k + 1) a0) := by
  intro a0 k
  have ih0 := rolling_power.mono_l k
  unfold rolling_power.f
  repeat' first
      | (with_reducible exact ih0 _ _ _)
      | (with_reducible exact LeO.refl _)
      | (with_reducible exact LeO.none _)
      | (with_reducible refine LeO.ite ?_ ?_)
      | (with_reducible refine LeO.bind ?_ (fun _ => ?_))
      | exact ih0 _ _ _
      | exact LeO.none _
      | refine LeO.ite ?_ ?_
      | refine LeO.bind ?_ (fun _ => ?_)
set_option maxHeartbeats 8000000 in
set_option maxRecDepth 100000 in
theorem rolling_power.calls (k : Nat) (a0 : Int) (r : Int) (w : World) (h : rolling_power.f k a0 = some r) :
    Calls Tryz.prog 91 #[.int .i64 a0] w fun e w' => e = .returned (.int .i64 r) ∧ Drawn0 w w' := by
  have H : (rolling_power.l0 k a0 1 1000003) = some r := h
  clear h
  have H' := Aside0.mk H
  clear H
  go_enter Tryz.func91, Tryz.ntmps91
  go_wp2
  go_loopg [0, 3, 4] k (fun kq v0 v3 v4 w' => ∃ (x0_1 : Int) (x3_1 : Int) (x4_1 : Int), v0 = .int .i64 x0_1 ∧ v3 = .int .i64 x3_1 ∧ v4 = .int .i64 x4_1 ∧ Aside0 (rolling_power.l0 kq x0_1 x3_1 x4_1 = some r) ∧ Aside0 (kq ≤ k) ∧ Drawn0 w w')
  case atStart => exact ⟨(a0), (1), (1000003), (by first | rfl | (simp; done) | (simp [*]; done)), (by first | rfl | (simp; done) | (simp [*]; done)), (by first | rfl | (simp; done) | (simp [*]; done)), H', ⟨Nat.le_refl _⟩, by repeat (first | exact Drawn0.refl _ | apply Drawn0.step)⟩
  case round =>
    clear H'
    obtain ⟨x0_1, x3_1, x4_1, rfl, rfl, rfl, HA, HK1, ⟨m1, rfl⟩⟩ := hrel
    cases gk with
    | zero => exact absurd HA.out (by simp [rolling_power.l0])
    | succ k1 =>
      have H := HA.out
      clear HA
      simp only [rolling_power.l0] at H
      by_cases c2 : x0_1 > 0
      · rw [if_pos c2] at H
        have c2b0 : decide (0 < x0_1) = true := decide_eq_true c2
        clear c2
        by_cases c3 : (Int.tmod x0_1 2) = 1
        · rw [if_pos c3] at H
          have c3b0 : ((Int.tmod x0_1 2) == 1) = true := beq_iff_eq.mpr c3
          have c3b1 : ((Int.tmod x0_1 2) != 1) = false := bne_eq_false_iff_eq.mpr c3
          clear c3
          replace H := Option.bind_eq_some_iff.mp H
          obtain ⟨t166, A40, H⟩ := H
          replace H : ((rolling_mul.f x4_1 x4_1).bind fun t167 => (rolling_power.l0 k1 (wrap64 (Int.tdiv x0_1 2)) t166 t167)) = some r := H
          have A4 := Aside0.mk A40
          clear A40
          replace H := Option.bind_eq_some_iff.mp H
          obtain ⟨t167, A50, H⟩ := H
          replace H : (rolling_power.l0 k1 (wrap64 (Int.tdiv x0_1 2)) t166 t167) = some r := H
          have A5 := Aside0.mk A50
          clear A50
          have H' := Aside0.mk H
          clear H
          go_wp2_with (first | ((with_reducible refine gate_callee (f := 131) rfl ?_); refine goesL_ (some 14) rfl rfl Tryz.func131 (by kernel_rfl) rfl #[.int .i64 x3_1, .int .i64 x4_1] rfl (by (try simp only [List.map_toArray, List.map_cons, List.map_nil]); first | done | rfl | (simp only [List.length_drop, List.length_take]; rfl)) ?_; (with_reducible refine (rolling_mul.calls x3_1 x4_1 t166 _ A4.out).mono ?_); rintro e w' ⟨rfl, ⟨nd, rfl⟩⟩; refine ⟨_, rfl, ?_⟩) | ((with_reducible refine gate_callee (f := 131) rfl ?_); refine goesL_ (some 17) rfl rfl Tryz.func131 (by kernel_rfl) rfl #[.int .i64 x4_1, .int .i64 x4_1] rfl (by (try simp only [List.map_toArray, List.map_cons, List.map_nil]); first | done | rfl | (simp only [List.length_drop, List.length_take]; rfl)) ?_; (with_reducible refine (rolling_mul.calls x4_1 x4_1 t167 _ A5.out).mono ?_); rintro e w' ⟨rfl, ⟨nd, rfl⟩⟩; refine ⟨_, rfl, ?_⟩))
          go_roundg k1
          case measure => have := HK1.out; omega
          case rel => exact ⟨(wrap64 (Int.tdiv x0_1 2)), (t166), (t167), (by first | rfl | (simp; done) | (simp [*]; done)), (by first | rfl | (simp; done) | (simp [*]; done)), (by first | rfl | (simp; done) | (simp [*]; done)), H', ⟨by have := HK1.out; omega⟩, by repeat (first | exact Drawn0.refl _ | apply Drawn0.step)⟩
        · rw [if_neg c3] at H
          have c3b0 : ((Int.tmod x0_1 2) == 1) = false := beq_eq_false_iff_ne.mpr c3
          have c3b1 : ((Int.tmod x0_1 2) != 1) = true := bne_iff_ne.mpr c3
          replace H := Option.bind_eq_some_iff.mp H
          obtain ⟨t168, A60, H⟩ := H
          replace H : (rolling_power.l0 k1 (wrap64 (Int.tdiv x0_1 2)) x3_1 t168) = some r := H
          have A6 := Aside0.mk A60
          clear A60
          have H' := Aside0.mk H
          clear H
          go_wp2_with (first | ((with_reducible refine gate_callee (f := 131) rfl ?_); refine goesL_ (some 17) rfl rfl Tryz.func131 (by kernel_rfl) rfl #[.int .i64 x4_1, .int .i64 x4_1] rfl (by (try simp only [List.map_toArray, List.map_cons, List.map_nil]); first | done | rfl | (simp only [List.length_drop, List.length_take]; rfl)) ?_; (with_reducible refine (rolling_mul.calls x4_1 x4_1 t168 _ A6.out).mono ?_); rintro e w' ⟨rfl, ⟨nd, rfl⟩⟩; refine ⟨_, rfl, ?_⟩))
          go_roundg k1
          case measure => have := HK1.out; omega
          case rel => exact ⟨(wrap64 (Int.tdiv x0_1 2)), (x3_1), (t168), (by first | rfl | (simp; done) | (simp [*]; done)), (by first | rfl | (simp; done) | (simp [*]; done)), (by first | rfl | (simp; done) | (simp [*]; done)), H', ⟨by have := HK1.out; omega⟩, by repeat (first | exact Drawn0.refl _ | apply Drawn0.step)⟩
      · rw [if_neg c2] at H
        have c2b0 : decide (0 < x0_1) = false := decide_eq_false c2
        clear c2
        obtain rfl := Option.some.inj H
        go_wp2
        go_ret
        exact ⟨by first | rfl | (simp; done) | (simp [*]; done), by repeat (first | exact Drawn0.refl _ | apply Drawn0.step)⟩

/-! ### rolling_roll: function 92 -/
def rolling_roll.f (k : Nat) (a0 : Int) (a1 : ByteArray) (a2 : ByteArray) (a3 : Int) : Option (Int) := (rolling_Code.f k a1).bind fun t169 => ((rolling_add.f t169 1).bind fun t170 => ((rolling_mul.f t170 a3).bind fun t171 => ((rolling_add.f a0 (wrap64 (2305843009213693951 - t171))).bind fun t172 => ((rolling_push.f k t172 a2).bind fun t173 => (some t173)))))
theorem rolling_roll.mono : ∀ a0 a1 a2 a3 k, LeO (rolling_roll.f k a0 a1 a2 a3) (rolling_roll.f (k + 1) a0 a1 a2 a3) := by
  intro a0 a1 a2 a3 k
  unfold rolling_roll.f
  repeat' first
      | (with_reducible exact rolling_Code.mono _ _)
      | (with_reducible exact rolling_push.mono _ _ _)
      | (with_reducible exact LeO.refl _)
      | (with_reducible exact LeO.none _)
      | (with_reducible refine LeO.ite ?_ ?_)
      | (with_reducible refine LeO.bind ?_ (fun _ => ?_))
      | exact rolling_Code.mono _ _
      | exact rolling_push.mono _ _ _
      | exact LeO.none _
      | refine LeO.ite ?_ ?_
      | refine LeO.bind ?_ (fun _ => ?_)
set_option maxHeartbeats 8000000 in
set_option maxRecDepth 100000 in
theorem rolling_roll.calls (k : Nat) (a0 : Int) (a1 : ByteArray) (a2 : ByteArray) (a3 : Int) (r : Int) (w : World) (h : rolling_roll.f k a0 a1 a2 a3 = some r) :
    Calls Tryz.prog 92 #[.int .i64 a0, .string a1, .string a2, .int .i64 a3] w fun e w' => e = .returned (.int .i64 r) ∧ Drawn0 w w' := by
  have H : ((rolling_Code.f k a1).bind fun t169 => ((rolling_add.f t169 1).bind fun t170 => ((rolling_mul.f t170 a3).bind fun t171 => ((rolling_add.f a0 (wrap64 (2305843009213693951 - t171))).bind fun t172 => ((rolling_push.f k t172 a2).bind fun t173 => (some t173)))))) = some r := h
  clear h
  replace H := Option.bind_eq_some_iff.mp H
  obtain ⟨t169, A50, H⟩ := H
  replace H : ((rolling_add.f t169 1).bind fun t170 => ((rolling_mul.f t170 a3).bind fun t171 => ((rolling_add.f a0 (wrap64 (2305843009213693951 - t171))).bind fun t172 => ((rolling_push.f k t172 a2).bind fun t173 => (some t173))))) = some r := H
  have A5 := Aside0.mk A50
  clear A50
  replace H := Option.bind_eq_some_iff.mp H
  obtain ⟨t170, A60, H⟩ := H
  replace H : ((rolling_mul.f t170 a3).bind fun t171 => ((rolling_add.f a0 (wrap64 (2305843009213693951 - t171))).bind fun t172 => ((rolling_push.f k t172 a2).bind fun t173 => (some t173)))) = some r := H
  have A6 := Aside0.mk A60
  clear A60
  replace H := Option.bind_eq_some_iff.mp H
  obtain ⟨t171, A70, H⟩ := H
  replace H : ((rolling_add.f a0 (wrap64 (2305843009213693951 - t171))).bind fun t172 => ((rolling_push.f k t172 a2).bind fun t173 => (some t173))) = some r := H
  have A7 := Aside0.mk A70
  clear A70
  replace H := Option.bind_eq_some_iff.mp H
  obtain ⟨t172, A80, H⟩ := H
  replace H : ((rolling_push.f k t172 a2).bind fun t173 => (some t173)) = some r := H
  have A8 := Aside0.mk A80
  clear A80
  replace H := Option.bind_eq_some_iff.mp H
  obtain ⟨t173, A90, H⟩ := H
  replace H : (some t173) = some r := H
  have A9 := Aside0.mk A90
  clear A90
  obtain rfl := Option.some.inj H
  go_enter Tryz.func92, Tryz.ntmps92
  go_wp2_with (first | ((with_reducible refine gate_callee (f := 133) rfl ?_); refine goesL_ (some 11) rfl rfl Tryz.func133 (by kernel_rfl) rfl #[.string a1] rfl (by (try simp only [List.map_toArray, List.map_cons, List.map_nil]); first | done | rfl | (simp only [List.length_drop, List.length_take]; rfl)) ?_; (with_reducible refine (rolling_Code.calls k a1 t169 _ A5.out).mono ?_); rintro e w' ⟨rfl, ⟨nd, rfl⟩⟩; refine ⟨_, rfl, ?_⟩) | ((with_reducible refine gate_callee (f := 132) rfl ?_); refine goesL_ (some 12) rfl rfl Tryz.func132 (by kernel_rfl) rfl #[.int .i64 t169, .int .i64 1] rfl (by (try simp only [List.map_toArray, List.map_cons, List.map_nil]); first | done | rfl | (simp only [List.length_drop, List.length_take]; rfl)) ?_; (with_reducible refine (rolling_add.calls t169 1 t170 _ A6.out).mono ?_); rintro e w' ⟨rfl, ⟨nd, rfl⟩⟩; refine ⟨_, rfl, ?_⟩) | ((with_reducible refine gate_callee (f := 131) rfl ?_); refine goesL_ (some 14) rfl rfl Tryz.func131 (by kernel_rfl) rfl #[.int .i64 t170, .int .i64 a3] rfl (by (try simp only [List.map_toArray, List.map_cons, List.map_nil]); first | done | rfl | (simp only [List.length_drop, List.length_take]; rfl)) ?_; (with_reducible refine (rolling_mul.calls t170 a3 t171 _ A7.out).mono ?_); rintro e w' ⟨rfl, ⟨nd, rfl⟩⟩; refine ⟨_, rfl, ?_⟩) | ((with_reducible refine gate_callee (f := 132) rfl ?_); refine goesL_ (some 18) rfl rfl Tryz.func132 (by kernel_rfl) rfl #[.int .i64 a0, .int .i64 (wrap64 (2305843009213693951 - t171))] rfl (by (try simp only [List.map_toArray, List.map_cons, List.map_nil]); first | done | rfl | (simp only [List.length_drop, List.length_take]; rfl)) ?_; (with_reducible refine (rolling_add.calls a0 (wrap64 (2305843009213693951 - t171)) t172 _ A8.out).mono ?_); rintro e w' ⟨rfl, ⟨nd, rfl⟩⟩; refine ⟨_, rfl, ?_⟩) | ((with_reducible refine gate_callee (f := 130) rfl ?_); refine goesL_ (some 20) rfl rfl Tryz.func130 (by kernel_rfl) rfl #[.int .i64 t172, .string a2] rfl (by (try simp only [List.map_toArray, List.map_cons, List.map_nil]); first | done | rfl | (simp only [List.length_drop, List.length_take]; rfl)) ?_; (with_reducible refine (rolling_push.calls k t172 a2 t173 _ A9.out).mono ?_); rintro e w' ⟨rfl, ⟨nd, rfl⟩⟩; refine ⟨_, rfl, ?_⟩))
  go_ret
  exact ⟨by first | rfl | (simp; done) | (simp [*]; done), by repeat (first | exact Drawn0.refl _ | apply Drawn0.step)⟩

end Go.Proofs.YtbakoigejihnaaaGreatDoor.Ref
