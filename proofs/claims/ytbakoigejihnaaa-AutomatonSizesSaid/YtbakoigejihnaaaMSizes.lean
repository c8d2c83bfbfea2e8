/- The law AutomatonSizes returns true for every input: States and Runs of the built automaton are the specified numbers. Conditions: none. -/
import Derived.Test.YtbakoigejihnaaaMRef
/- The law AutomatonSizes, walked. -/
set_option linter.unusedSectionVars false
set_option linter.unusedSimpArgs false
set_option linter.unusedVariables false
namespace Go.Proofs.Ytbakoigejihnaaa.Law
open Go.RowKit Go.AutoMap Go.Proofs.YtbakoigejihnaaaW.PrintWords Go.Proofs.YtbakoigejihnaaaW.PrintLast Go.Proofs.YtbakoigejihnaaaW.PrintMore
open Sam (Auto Inv countS firstS nRuns endsS bestS Run)
open Ref (S41 k41 txt la lb abab)
open Wk (Built kW EndsIs)

theorem heap41 : Kd.Heap k41 := by first | exact Kd.Heap_iso (Kd.Heap_pair Kd.Heap_string (Kd.Heap_int _)) | exact Kd.heap_iso _ (Kd.heap_pair Kd.heap_string (Kd.heap_int _))

set_option maxHeartbeats 4000000 in
set_option maxRecDepth 100000 in
theorem sizes_walk (w : World) (A0 : Option Addr) (c0 : Nat) (l : List S41) (hC : Kd.C k41 w A0 l.length l) (hc : l.length ≤ c0) : Calls Try.prog 3 #[.slice A0 l.length c0] w (Yes w) := by
  have HC := Aside0.mk hC
  clear hC
  obtain ⟨bf, hbf, hfew⟩ := Ref.few27_ev l
  obtain ⟨kf, hkf⟩ := hfew.get
  have HBf := Aside0.mk hbf
  clear hbf hfew
  go_enter Try.func3, Try.ntmps3
  go_wp2_with (go_at_call 10; refine (awake _).mono ?_; rintro e w1 ⟨rfl, hb1⟩)
  have HB1 := Aside0.mk hb1
  clear hb1
  have HF : Aside0 (Calls Try.prog 11 #[.slice A0 l.length c0] w1 fun e w' => e = .returned (.bool bf) ∧ Drawn0 w1 w') := ⟨Ref.licitref27_Few.calls kf A0 c0 l bf w1 (Kd.C_below HC.out HB1.out) hc hkf⟩
  cases bf with
  | false =>
    go_wp2_with (go_at_call 11; refine HF.out.mono ?_; rintro e w2 ⟨rfl, hd⟩)
    go_ret
    exact ⟨rfl, drawn0_below HB1.out hd⟩
  | true =>
    go_wp2_with (go_at_call 11; refine HF.out.mono ?_; rintro e w2 ⟨rfl, hd⟩)
    have hlen := HBf.out (by trivial)
    have HB2 : Aside0 (Below w.heap.size w w2) := ⟨drawn0_below HB1.out hd⟩
    have HC2 : Aside0 (Kd.C k41 w2 A0 l.length l) := ⟨Kd.C_below HC.out HB2.out⟩
    clear hd HF
    refine (build A0 c0 l HC2.out (by omega)).mono ?_
    rintro e w3 ⟨ba, A, rfl, hm, hbt, hb3⟩
    have HM := Aside0.mk hm
    have HBt := Aside0.mk hbt
    have HB3 : Aside0 (Below w.heap.size w w3) := ⟨HB2.out.trans (hb3.mono HB2.out.size)⟩
    clear hm hbt hb3
    go_wp2_with fail
    refine (Wk.states_calls w3 w2.heap.size ba A HM.out).mono ?_
    rintro e w4 ⟨rfl, rfl⟩
    have hst : Ref.Ev (fun k => Ref.licitref27_States.f k l) ((A.m : Nat) : Int) := by
      obtain ⟨rep, hg⟩ := HBt.out.good
      exact Ref.states_ev (A := A.fresh) hlen hg.inv
    obtain ⟨ks, hks⟩ := hst.get
    have HSt := Aside0.mk (Ref.licitref27_States.calls ks (fun k => k < w4.heap.size) A0 c0 l _ w4 (Kd.V_mk hc (Kd.C_F heap41 (Kd.C_below HC.out HB3.out))) hks)
    clear hst hks
    go_wp2_with (go_at_call 14; refine HSt.out.mono ?_; rintro e w5 ⟨rfl, hb5⟩)
    have HM5 : Aside0 (AutoMem 53 56 w5 w2.heap.size ba A) := ⟨HM.out.below hb5⟩
    have HB5 : Aside0 (Below w.heap.size w w5) := ⟨HB3.out.trans (hb5.mono HB3.out.size)⟩
    clear hb5 HSt HM HB3
    refine (Wk.q_runs HM5.out HBt.out (by rw [Ref.txt_length]; omega)).mono ?_
    rintro e w6 ⟨rfl, hb6⟩
    have HB6 : Aside0 (Below w.heap.size w w6) := ⟨HB5.out.trans (hb6.mono HB5.out.size)⟩
    clear hb6 HM5 HB5
    obtain ⟨kr, hkr⟩ := (Ref.runs_ev (T := l) (by omega)).get
    have HRn := Aside0.mk (Ref.licitref27_Runs.calls kr A0 c0 l _ w6 (Kd.C_below HC.out HB6.out) hc hkr)
    clear hkr
    go_wp2_with (go_at_call 16; refine HRn.out.mono ?_; rintro e w7 ⟨rfl, hd⟩)
    go_ret
    exact ⟨by simp, drawn0_below HB6.out hd⟩
end Go.Proofs.Ytbakoigejihnaaa.Law

/- States and Runs return the specified numbers: the row, out of the law's walk. -/
namespace Go.Proofs.Ytbakoigejihnaaa.Law
open Go.ChangeShapes Go.WideShapes Go.ChangeAt Go.RowKit
open Go.ChangeMaps (open_string shut_string)
set_option linter.unusedVariables false

set_option maxRecDepth 100000 in
theorem sizes_lifted (os : Os) (started : os.Started) (H : Type) (enc : TypeId × Value → H) :
    ReturnsInHanded {} Try.checked os 3 .any (Rows.automatonSizesSpec.pre6 enc Try.prog Try.f3 Rows.automatonSizesRow.domain false) (Rows.automatonSizesSpec.post enc Try.prog Try.f3 false true false false) := by
  refine returnsInHanded_of_change_sized (C := Try.checked) own started (by kernel_rfl) Try.func3
    (ChangeSpec.witness6 (enc := enc) (C := Try.checked) false ⟨#[], #[.slice none 0 0], []⟩ 8 (by kernel_rfl) (by kernel_rfl) (by kernel_rfl) (by kernel_rfl)) ?_
  intro W base args ds gs before hval0 hW hcnd hsz0 _
  have hval : ∀ (j : Nat) t v, Try.f3.params[j]? = some t → args[j]? = some v → Value.okWide Try.prog W .any base t v := hval0
  have hW' := hW
  obtain ⟨p, q, hA0, hV, rfl, hfz, hnd⟩ := hW
  have hA : DataW.TrodAll enc Try.prog W 0 (fun _ => true) true Try.f3.params.toList args.toList ds p := hA0
  rw [Try.params3] at hA hval
  obtain ⟨v0, vs0, d0, ds0, p0, q0, hargs, rfl, rfl, h0, r0⟩ := trodAll_cons hA
  obtain ⟨rfl, rfl, rfl⟩ := trodAll_nil r0
  obtain rfl : args = #[v0] := by cases args; simp_all
  obtain ⟨rfl, rfl⟩ := trodVars_none hV
  obtain ⟨a0, len0, cap0, rfl⟩ := okWide_slice Try.underlying22 (hval 0 22 v0 rfl rfl)
  have k0 := h0
  have lt0 : ∀ x ∈ p0, x.block < W.heap.size := by obtain ⟨m, hm⟩ := k0; exact DataW.trod_lt m _ _ _ hm
  obtain ⟨l0, rfl, hl0, hC0⟩ := open_words h0
  clear hA0 hval0 hsz0
  refine (sizes_walk W a0 cap0 l0 hC0 hl0).mono fun e W' ⟨he, bel⟩ => ?_
  subst he
  exact ⟨_, rfl, _, _, _, [], _, [], hW', trodAll_mk1 (shut_bool Try.underlying4 _), (trodAll_cons_mk (Below.trod laidOut (by kernel_rfl) (of_decide_eq_true (by kernel_rfl)) k0 bel lt0) trodAll_mk0), rfl, bel.frame _, fun h => by cases h⟩

theorem sizes_over : Rows.automatonSizesRow.holds Try.pinned (OpenSpec.ofChange Rows.automatonSizesSpec) :=
  OpenClaim.holds_of_wide 3 Try.f3 rfl rfl rfl rfl rfl rfl rfl ⟨rfl, rfl, rfl, rfl, rfl⟩ rfl rfl rfl rfl rfl (by kernel_rfl) Try.func3 (by kernel_rfl)
    (of_decide_eq_true (by kernel_rfl)) (by unfold Func.isWrapper; first | (rw [if_pos (by decide +kernel)]; kernel_rfl) | (rw [if_neg (by decide +kernel)]; exact ⟨rfl, rfl⟩))
    (fun os started H enc _ => sizes_lifted os started H enc)
end Go.Proofs.Ytbakoigejihnaaa.Law
namespace Go.Proofs.Ytbakoigejihnaaa
/-- The row, under a short name, for the claim. -/
theorem automatonSizes_holds : Rows.AutomatonSizesSaid := Law.sizes_over
end Go.Proofs.Ytbakoigejihnaaa
