/- The law AutomatonAsks returns true for every input: Has, Count and First of the built automaton are what the definitions specify. Conditions: none. -/
import Derived.Test.YtbakoigejihnaaaMRef
/- The law AutomatonAsks, walked. -/
set_option linter.unusedSectionVars false
set_option linter.unusedSimpArgs false
set_option linter.unusedVariables false
namespace Go.Proofs.Ytbakoigejihnaaa.Law
open Go.RowKit Go.AutoMap Go.Proofs.YtbakoigejihnaaaW.PrintWords Go.Proofs.YtbakoigejihnaaaW.PrintLast Go.Proofs.YtbakoigejihnaaaW.PrintMore
open Sam (Auto Inv countS firstS nRuns endsS bestS Run)
open Ref (S41 k41 txt)
open Wk (Built)

noncomputable def few24 (l : List S41) : Bool := Classical.choose (Ref.few24_ev l)
theorem few24_len {l : List S41} (h : few24 l = true) : l.length ≤ 40 := (Classical.choose_spec (Ref.few24_ev l)).1 h

section
variable (w : World) (A0 A1 : Option Addr) (c0 c1 : Nat) (T L : List S41) (h0 : Kd.C k41 w A0 T.length T) (hc0 : T.length ≤ c0)
include h0 hc0
theorem few24_calls : Calls Try.prog 17 #[.slice A0 T.length c0] w fun e w' => e = .returned (.bool (few24 T)) ∧ Drawn0 w w' := by
  obtain ⟨k, hk⟩ := (Classical.choose_spec (Ref.few24_ev T)).2.get
  exact Ref.licitref24_Few.calls k A0 c0 T _ w h0 hc0 hk
variable (h1 : Kd.C k41 w A1 L.length L) (hc1 : L.length ≤ c1) (hT : T.length ≤ 100000) (hL : L.length ≤ 100000)
include h1 hc1 hT hL
theorem ref_first : Calls Try.prog 24 #[.slice A0 T.length c0, .slice A1 L.length c1] w fun e w' => e = .returned (.int .i64 (firstS (txt T) (txt L))) ∧ Drawn0 w w' := by
  obtain ⟨k, hk⟩ := (Ref.first_ev (T := T) (L := L) hT hL).get
  exact Ref.licitref27_First.calls k A0 c0 T A1 c1 L _ w h0 hc0 h1 hc1 hk
theorem ref_count : Calls Try.prog 26 #[.slice A0 T.length c0, .slice A1 L.length c1] w fun e w' => e = .returned (.int .i64 ((countS (txt T) (txt L) : Nat) : Int)) ∧ Drawn0 w w' := by
  obtain ⟨k, hk⟩ := (Ref.count_ev (T := T) (L := L) hT hL).get
  exact Ref.licitref27_Count.calls k A0 c0 T A1 c1 L _ w h0 hc0 h1 hc1 hk
end

theorem run_first (W L : List ByteArray) : (decide (Run W L) == decide (0 ≤ firstS W L)) = true := by
  by_cases h : Run W L
  · have : ¬ firstS W L < 0 := fun k => Sam.firstS_neg.1 k h
    simp [h]; omega
  · have := Sam.firstS_neg.2 h
    simp [h]; omega

set_option maxHeartbeats 4000000 in
set_option maxRecDepth 100000 in
theorem asks_walk (w : World) (A0 A1 : Option Addr) (c0 c1 : Nat) (T L : List S41) (h0 : Kd.C k41 w A0 T.length T) (hc0 : T.length ≤ c0) (h1 : Kd.C k41 w A1 L.length L) (hc1 : L.length ≤ c1) : Calls Try.prog 5 #[.slice A0 T.length c0, .slice A1 L.length c1] w (Yes w) := by
  have HC0 := Aside0.mk h0
  have HC1 := Aside0.mk h1
  clear h0 h1
  have F0 := Aside0.mk (@few24_len T)
  have F1 := Aside0.mk (@few24_len L)
  go_enter Try.func5, Try.ntmps5
  go_wp2_with (go_at_call 10; refine (awake _).mono ?_; rintro e w1 ⟨rfl, hb1⟩)
  have HB1 := Aside0.mk hb1
  clear hb1
  have HF := Aside0.mk (few24_calls w1 A0 c0 T (Kd.C_below HC0.out HB1.out) hc0)
  generalize few24 T = b0 at HF F0
  cases b0 with
  | false =>
    go_wp2_with (go_at_call 17; with_reducible refine HF.out.mono ?_; rintro e w2 ⟨rfl, hd⟩)
    go_ret
    exact ⟨rfl, drawn0_below HB1.out hd⟩
  | true =>
    have hT := F0.out rfl
    go_wp2_with (go_at_call 17; with_reducible refine HF.out.mono ?_; rintro e w2 ⟨rfl, hd⟩)
    have HB2 : Aside0 (Below w.heap.size w w2) := ⟨drawn0_below HB1.out hd⟩
    clear hd HF HB1 F0
    have HF := Aside0.mk (few24_calls w2 A1 c1 L (Kd.C_below HC1.out HB2.out) hc1)
    generalize few24 L = b1 at HF F1
    cases b1 with
    | false =>
      refine HF.out.mono ?_
      rintro e w3 ⟨rfl, hd⟩
      go_wp2_with fail
      go_ret
      exact ⟨rfl, drawn0_below HB2.out hd⟩
    | true =>
      have hL := F1.out rfl
      refine HF.out.mono ?_
      rintro e w3 ⟨rfl, hd⟩
      have HB3 : Aside0 (Below w.heap.size w w3) := ⟨drawn0_below HB2.out hd⟩
      clear hd HF HB2 F1
      go_wp2_with fail
      refine (build A0 c0 T (Kd.C_below HC0.out HB3.out) (by omega)).mono ?_
      rintro e w4 ⟨ba, A, rfl, hm, hbt, hb4⟩
      have HM := Aside0.mk hm
      have HBt := Aside0.mk hbt
      have HB4 : Aside0 (Below w.heap.size w w4) := ⟨HB3.out.trans (hb4.mono HB3.out.size)⟩
      have hW : (txt T).length ≤ 8192 := by rw [Ref.txt_length]; omega
      clear hm hbt hb4
      go_wp2_with fail
      refine (has A1 c1 L (Kd.C_below HC1.out HB4.out) (by omega) HM.out HBt.out).mono ?_
      rintro e w5 ⟨rfl, hb5⟩
      have HM5 : Aside0 (AutoMem 53 56 w5 w3.heap.size ba A) := ⟨HM.out.below hb5⟩
      have HB5 : Aside0 (Below w.heap.size w w5) := ⟨HB4.out.trans (hb5.mono HB4.out.size)⟩
      clear hb5 HM HB4
      have HRF := fun w' (hb : Below w.heap.size w w') => ref_first w' A0 A1 c0 c1 T L (Kd.C_below HC0.out hb) hc0 (Kd.C_below HC1.out hb) hc1 (by omega) (by omega)
      have HRF := Aside0.mk HRF
      have HEq := run_first (txt T) (txt L)
      go_wp2_with (go_at_call 24; with_reducible refine (HRF.out _ HB5.out).mono ?_; rintro e w6 ⟨rfl, hd⟩)
      have HM6 : Aside0 (AutoMem 53 56 w6 w3.heap.size ba A) := by obtain ⟨q, rfl⟩ := hd; exact ⟨HM5.out.below (bdrew (Below.refl _ _) q)⟩
      have HB6 : Aside0 (Below w.heap.size w w6) := ⟨drawn0_below HB5.out hd⟩
      clear hd HM5 HB5
      refine (count A1 c1 L (Kd.C_below HC1.out HB6.out) (by omega) HM6.out HBt.out).mono ?_
      rintro e w7 ⟨rfl, hb7⟩
      have HM7 : Aside0 (AutoMem 53 56 w7 w3.heap.size ba A) := ⟨HM6.out.below hb7⟩
      have HB7 : Aside0 (Below w.heap.size w w7) := ⟨HB6.out.trans (hb7.mono HB6.out.size)⟩
      clear hb7 HM6 HB6
      have HRC := Aside0.mk (ref_count w7 A0 A1 c0 c1 T L (Kd.C_below HC0.out HB7.out) hc0 (Kd.C_below HC1.out HB7.out) hc1 (by omega) (by omega))
      go_wp2_with (go_at_call 26; with_reducible refine HRC.out.mono ?_; rintro e w8 ⟨rfl, hd⟩)
      have HM8 : Aside0 (AutoMem 53 56 w8 w3.heap.size ba A) := by obtain ⟨q, rfl⟩ := hd; exact ⟨HM7.out.below (bdrew (Below.refl _ _) q)⟩
      have HB8 : Aside0 (Below w.heap.size w w8) := ⟨drawn0_below HB7.out hd⟩
      clear hd HM7 HB7 HRC
      refine (first A1 c1 L (Kd.C_below HC1.out HB8.out) (by omega) HM8.out HBt.out hW).mono ?_
      rintro e w9 ⟨rfl, hb9⟩
      have HB9 : Aside0 (Below w.heap.size w w9) := ⟨HB8.out.trans (hb9.mono HB8.out.size)⟩
      clear hb9 HM8 HB8
      go_wp2_with (go_at_call 24; with_reducible refine (HRF.out _ HB9.out).mono ?_; rintro e w10 ⟨rfl, hd⟩)
      go_ret
      exact ⟨by simp, drawn0_below HB9.out hd⟩
end Go.Proofs.Ytbakoigejihnaaa.Law

/- Has, Count and First return what the definitions specify: the row of AutomatonAsks, out of the law's walk. -/
namespace Go.Proofs.Ytbakoigejihnaaa.Law
open Go.ChangeShapes Go.WideShapes Go.ChangeAt Go.RowKit
open Go.ChangeMaps (open_string shut_string)
set_option linter.unusedVariables false

set_option maxRecDepth 100000 in
theorem asks_lifted (os : Os) (started : os.Started) (H : Type) (enc : TypeId × Value → H) :
    ReturnsInHanded {} Try.checked os 5 .any (Rows.automatonAsksSpec.pre6 enc Try.prog Try.f5 Rows.automatonAsksRow.domain false) (Rows.automatonAsksSpec.post enc Try.prog Try.f5 false true false false) := by
  refine returnsInHanded_of_change_sized (C := Try.checked) own started (by kernel_rfl) Try.func5
    (ChangeSpec.witness6 (enc := enc) (C := Try.checked) false ⟨#[], #[.slice none 0 0, .slice none 0 0], []⟩ 8 (by kernel_rfl) (by kernel_rfl) (by kernel_rfl) (by kernel_rfl)) ?_
  intro W base args ds gs before hval0 hW hcnd hsz0 _
  have hval : ∀ (j : Nat) t v, Try.f5.params[j]? = some t → args[j]? = some v → Value.okWide Try.prog W .any base t v := hval0
  have hW' := hW
  obtain ⟨p, q, hA0, hV, rfl, hfz, hnd⟩ := hW
  have hA : DataW.TrodAll enc Try.prog W 0 (fun _ => true) true Try.f5.params.toList args.toList ds p := hA0
  rw [Try.params5] at hA hval
  obtain ⟨v0, vs0, d0, ds0, p0, q0, hargs, rfl, rfl, h0, r0⟩ := trodAll_cons hA
  obtain ⟨v1, vs1, d1, ds1, p1, q1, rfl, rfl, rfl, h1, r1⟩ := trodAll_cons r0
  obtain ⟨rfl, rfl, rfl⟩ := trodAll_nil r1
  obtain rfl : args = #[v0, v1] := by cases args; simp_all
  obtain ⟨rfl, rfl⟩ := trodVars_none hV
  obtain ⟨a0, len0, cap0, rfl⟩ := okWide_slice Try.underlying22 (hval 0 22 v0 rfl rfl)
  have k0 := h0
  have lt0 : ∀ x ∈ p0, x.block < W.heap.size := by obtain ⟨m, hm⟩ := k0; exact DataW.trod_lt m _ _ _ hm
  obtain ⟨l0, rfl, hl0, hC0⟩ := open_words h0
  obtain ⟨a1, len1, cap1, rfl⟩ := okWide_slice Try.underlying22 (hval 1 22 v1 rfl rfl)
  have k1 := h1
  have lt1 : ∀ x ∈ p1, x.block < W.heap.size := by obtain ⟨m, hm⟩ := k1; exact DataW.trod_lt m _ _ _ hm
  obtain ⟨l1, rfl, hl1, hC1⟩ := open_words h1
  clear hA0 hval0 hsz0
  refine (asks_walk W a0 a1 cap0 cap1 l0 l1 hC0 hl0 hC1 hl1).mono fun e W' ⟨he, bel⟩ => ?_
  subst he
  exact ⟨_, rfl, _, _, _, [], _, [], hW', trodAll_mk1 (shut_bool Try.underlying4 _), (trodAll_cons_mk (Below.trod laidOut (by kernel_rfl) (of_decide_eq_true (by kernel_rfl)) k0 bel lt0) (trodAll_cons_mk (Below.trod laidOut (by kernel_rfl) (of_decide_eq_true (by kernel_rfl)) k1 bel lt1) trodAll_mk0)), rfl, bel.frame _, fun h => by cases h⟩

theorem asks_over : Rows.automatonAsksRow.holds Try.pinned (OpenSpec.ofChange Rows.automatonAsksSpec) :=
  OpenClaim.holds_of_wide 5 Try.f5 rfl rfl rfl rfl rfl rfl rfl ⟨rfl, rfl, rfl, rfl, rfl⟩ rfl rfl rfl rfl rfl (by kernel_rfl) Try.func5 (by kernel_rfl)
    (of_decide_eq_true (by kernel_rfl)) (by unfold Func.isWrapper; first | (rw [if_pos (by decide +kernel)]; kernel_rfl) | (rw [if_neg (by decide +kernel)]; exact ⟨rfl, rfl⟩))
    (fun os started H enc _ => asks_lifted os started H enc)
end Go.Proofs.Ytbakoigejihnaaa.Law
namespace Go.Proofs.Ytbakoigejihnaaa
/-- The row, under a short name, for the claim. -/
theorem automatonAsks_holds : Rows.AutomatonAsksSaid := Law.asks_over
end Go.Proofs.Ytbakoigejihnaaa
