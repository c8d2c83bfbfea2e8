/- The search for clones, walked: all clones of the least length, in order, or the error of too many; clones compared; the automaton's contracts over texts. Conditions: none. -/
import Derived.Test.YtbakoigejihnaaaGreatDoorMCn
import Derived.Test.YtbakoigejihnaaaGreatDoorMKl
import Derived.Deep.RegionHeld3
import Derived.Test.YtbakoigejihnaaaGreatDoorMWalk
import Derived.Test.YtbakoigejihnaaaGreatDoorMBs
section
set_option linter.unusedSectionVars false
set_option linter.unusedSimpArgs false
set_option linter.unusedVariables false
namespace Go.Proofs.YtbakoigejihnaaaGreatDoor.Wp
open Go.RowKit Go.MapG Go.MapKept Go.Proofs.YtbakoigejihnaaaGreatDoorW.PrintWords Go.Proofs.YtbakoigejihnaaaGreatDoorW.PrintLast Go.Proofs.YtbakoigejihnaaaGreatDoorW.PrintMore
open Kl (Diag Cl Plc diag toOf fromOf runAt)
open Ref (Lx txt txt_length)

/-- the fingerprints of the text i -/
def prT (T : List Tx) (k wi : Nat) (i : Nat) : List (Int × Nat) := Kl.printsW k wi ((tw T).getD i [])
def psT (T : List Tx) (k wi : Nat) (i : Nat) : List (Int × Int) := prS k wi ((tw T).getD i [])

theorem psT_get {T : List Tx} {k wi i m : Nat} (hm : m < (prT T k wi i).length) : (psT T k wi i).getD m (0, 0) = (((prT T k wi i)[m]).1, ((((prT T k wi i)[m]).2 : Nat) : Int)) := by
  unfold psT prS prT at *
  rw [List.getD_eq_getElem?_getD, List.getElem?_map, List.getElem?_eq_getElem hm]; rfl
theorem psT_length (T : List Tx) (k wi i : Nat) : (psT T k wi i).length = (prT T k wi i).length := by unfold psT prS prT; simp
theorem psT_txt {T : List Tx} (k wi : Nat) {i : Nat} (hi : i < T.length) : psT T k wi i = prS k wi (txt T[i].f1) := by unfold psT; rw [tw_get T hi]
theorem prT_length {T : List Tx} (hv : ∀ t, t ∈ T → validT t = true) {k wi : Nat} (hk0 : 1 ≤ k) (hw0 : 1 ≤ wi) (i : Nat) : (prT T k wi i).length ≤ 8192 := by
  unfold prT
  refine Nat.le_trans (Kl.prints_length Kl.hashL hk0 hw0 _) ?_
  by_cases hi : i < T.length
  · rw [tw_get T hi, txt_length]
    have := hv _ (List.getElem_mem hi)
    unfold validT at this
    by_cases h : 8192 < T[i].f1.length
    · rw [if_pos h] at this; cases this
    · omega
  · have : (tw T).getD i [] = [] := by rw [List.getD_eq_getElem?_getD, List.getElem?_eq_none (by rw [tw_length]; omega)]; rfl
    rw [this]; simp

theorem prT_bound {T : List Tx} {k wi i : Nat} (hk0 : 1 ≤ k) (hw0 : 1 ≤ wi) {p : Int × Nat} (h : p ∈ prT T k wi i) (hi : i < T.length) : p.2 < (T[i]'hi).f1.length := by
  have h1 := Kl.prints_lt hk0 hw0 (show p ∈ Kl.prints Kl.hashL k wi ((tw T).getD i []) from h)
  rw [tw_get T hi, txt_length] at h1
  omega
theorem places_bound {T : List Tx} {k wi : Nat} (hk0 : 1 ≤ k) (hw0 : 1 ≤ wi) {s : Int} {y : Plc} (h : y ∈ Kl.places (prT T k wi) T.length s) : ∃ hi : y.text < T.length, y.at_ < (T[y.text]'hi).f1.length := by
  obtain ⟨h1, h2⟩ := Kl.mem_places.1 h
  exact ⟨h1, prT_bound hk0 hw0 h2 h1⟩

theorem infoPs : (Tryz.prog.info? 74).map (fun i => (i.zero, i.size, i.bytes)) = some (some (.slice none 0 0), 1, 24) := by kernel_rfl
theorem infoPl : (Tryz.prog.info? 115).map (fun i => (i.zero, i.size, i.bytes)) = some (some (.agg #[.int .i64 0, .int .i64 0]), 2, 16) := by kernel_rfl
theorem run_make_prints (n : Nat) (hn : n ≤ 1000000) (w : World) : (Instr.makeSlice 112 (.int .i64 n) (.int .i64 n)).run Tryz.prog w = .ok (.slice (some ⟨w.heap.size, 0, none⟩) n n) (w.alloc (.cells (madeCells #[.slice none 0 0] n) 74)) := by
  obtain ⟨i0, hi, hz0, hz1, hz2⟩ := info_parts infoPs
  have := run_make (P := Tryz.prog) w 112 74 i0 (.slice none 0 0) Tryz.underlying112 hi hz0 .i64 .i64 n n (by omega) (Int.le_refl _) (by rw [hz2]; omega) (by omega)
  rw [hz1] at this
  simpa [Value.cells] using this

theorem all_found (T : List Tx) (k wi : Nat) : Kl.foundAll Kl.hashL k wi (tw T) = Kl.looks (tw T) (k + wi - 1) (Kl.pairsN (prT T k wi) (Kl.places (prT T k wi) T.length) T.length) := by
  unfold Kl.foundAll; rw [tw_length]; rfl
theorem found_many {T : List Tx} {k wi : Nat} (hk : 1 ≤ k) (hw : 1 ≤ wi) {P R : List (Plc × Plc)} {D : List Cl} (h : Kl.pairsN (prT T k wi) (Kl.places (prT T k wi) T.length) T.length = P ++ R) (hn : D.Nodup)
    (hm : ∀ c, c ∈ D ↔ (Kl.looks (tw T) (k + wi - 1) P).found c ≠ none) : ∃ L, Kl.Clones (tw T) (k + wi - 1) L ∧ D.length ≤ L.length := by
  obtain ⟨L, hL⟩ := Kl.clones_exist Kl.hashL hk hw (tw T)
  refine ⟨L, hL, Kl.length_le_of_nodup hn fun c hc => ?_⟩
  rw [hL.2, ← Kl.found_iff Kl.hashL hk hw, all_found, h]
  exact Kl.looks_mono _ _ ((hm c).1 hc)
/-- a clone as a value -/
def clS (c : Cl) : Ref.S37 := ⟨(c.A : Nat), (c.AtA : Nat), (c.B : Nat), (c.AtB : Nat), (c.Len : Nat)⟩
def unS (x : Ref.S37) : Cl := ⟨x.f0.toNat, x.f1.toNat, x.f2.toNat, x.f3.toNat, x.f4.toNat⟩
theorem unS_clS (c : Cl) : unS (clS c) = c := by obtain ⟨a, b, c, d, e⟩ := c; simp [unS, clS]
theorem ltS_cl (a b : Cl) : Go.Proofs.ltOf cmpS (clS a) (clS b) = decide (a.before b) := by
  rw [ltS, Bool.eq_iff_iff, decide_eq_true_eq, decide_eq_true_eq]
  unfold clS Kl.Cl.before
  simp only
  omega
theorem sorted_clones {T : List Tx} {k wi : Nat} (hk : 1 ≤ k) (hw : 1 ≤ wi) {K0 : List Cl} (hn : K0.Nodup)
    (hm : ∀ c, c ∈ K0 ↔ (Kl.looks (tw T) (k + wi - 1) (Kl.pairsN (prT T k wi) (Kl.places (prT T k wi) T.length) T.length)).found c ≠ none)
    {ys : List Ref.S37} (hp : ys.Perm (K0.map clS)) (hs : ys.Pairwise fun a b => Go.Proofs.ltOf cmpS b a = false) : ∃ L, Kl.Clones (tw T) (k + wi - 1) L ∧ L.map clS = ys := by
  have hu : (ys.map unS).Perm K0 := by
    have := hp.map unS
    rwa [List.map_map, show unS ∘ clS = id from funext unS_clS, List.map_id] at this
  have hy : (ys.map unS).map clS = ys := by
    rw [List.map_map]
    conv => rhs; rw [← List.map_id ys]
    refine List.map_congr_left fun y h => ?_
    obtain ⟨c, _, rfl⟩ := List.mem_map.1 (hp.mem_iff.1 h)
    show clS (unS (clS c)) = clS c
    rw [unS_clS]
  refine ⟨ys.map unS, Kl.clones_sorted (hu.nodup_iff.2 hn) (fun c => by rw [hu.mem_iff, hm, ← all_found, Kl.found_iff Kl.hashL hk hw]) ?_, hy⟩
  rw [← hy, List.pairwise_map] at hs
  exact hs.imp fun h => by rw [ltS_cl] at h; simpa using h

/-- what a search leaves -/
def CnPost (w : World) (T : List Tx) (k wi : Nat) (e : Ending) (w' : World) : Prop :=
  Below w.heap.size w w' ∧ ∃ L, Kl.Clones (tw T) (k + wi - 1) L ∧
    (L.length ≤ 1024 ∧ (∃ A1 c1, e = .returned (.tuple #[.slice A1 L.length c1, .int .i64 0]) ∧ L.length ≤ c1 ∧ Kd.C Ref.k37 w' A1 L.length (L.map clS)) ∨ 1024 < L.length ∧ e = .returned (.tuple #[.slice none 0 0, .int .i64 10]))

set_option maxHeartbeats 8000000 in
set_option maxRecDepth 100000 in
theorem clones_calls (T : List Tx) (A : Option Addr) (c : Nat) (w : World) (hM : MaxAt w) (hC : Kd.C kTx w A T.length T) (hS : ∀ t, t ∈ T → TxSmall t) (hv : ∀ t, t ∈ T → validT t = true) (hT : T.length ≤ 200)
    (k wi : Nat) (hk0 : 1 ≤ k) (hk1 : k ≤ 1024) (hw0 : 1 ≤ wi) (hw1 : wi ≤ 1024) :
    Calls Tryz.prog 23 #[.slice A T.length c, .int .i64 (k : Nat), .int .i64 (wi : Nat), .int .i64 (-1)] w (CnPost w T k wi) := by
  have HM := Aside0.mk hM
  have HC := Aside0.mk hC
  have HS := Aside0.mk hS
  have HV := Aside0.mk hv
  clear hM hC hS hv
  have hmm := @run_makeMap Tryz.prog
  have hmk := run_make_prints T.length (by omega)
  go_enter Tryz.func23, Tryz.ntmps23
  go_wp2_with fail
  clear hmm hmk
  obtain ⟨W1, hW1⟩ : ∃ W1, W1 = (((((w.alloc (.map #[] 0)).alloc (.map #[] 0)).alloc (.cells #[.slice A T.length c, .int .i64 ((k : Nat) + (wi : Nat) - 1 : Int), .map (some w.heap.size), .map (some (w.heap.size + 1))] 110)).alloc (.map #[] 0)).alloc (.cells (madeCells #[.slice none 0 0] T.length) 74)) := ⟨_, rfl⟩
  rw [← hW1]
  have hb1 : Below w.heap.size w W1 := by
    rw [hW1]
    exact (((((Below.refl _ _).alloc (Nat.le_refl _) _).alloc (by simp) _).alloc (by simp; omega) _).alloc (by simp; omega) _).alloc (by simp; omega) _
  have m1 : W1.heap[w.heap.size]? = some (.map #[] 0) := by
    rw [hW1, heap_alloc_old _ _ (by simp <;> omega), heap_alloc_old _ _ (by simp <;> omega), heap_alloc_old _ _ (by simp <;> omega), heap_alloc_old _ _ (by simp)]
    exact heap_alloc_new _ _
  have m2 : W1.heap[w.heap.size + 1]? = some (.map #[] 0) := by
    rw [hW1, heap_alloc_old _ _ (by simp <;> omega), heap_alloc_old _ _ (by simp <;> omega), heap_alloc_old _ _ (by simp)]
    have := heap_alloc_new (w.alloc (.map #[] 0)) (.map #[] 0)
    rwa [show (w.alloc (.map #[] 0)).heap.size = w.heap.size + 1 from by simp] at this
  have m3 : W1.heap[w.heap.size + 1 + 1]? = some (.cells #[.slice A T.length c, .int .i64 ((k : Nat) + (wi : Nat) - 1 : Int), .map (some w.heap.size), .map (some (w.heap.size + 1))] 110 (0, 0)) := by
    rw [hW1, heap_alloc_old _ _ (by simp <;> omega), heap_alloc_old _ _ (by simp)]
    have := heap_alloc_new ((w.alloc (.map #[] 0)).alloc (.map #[] 0)) (.cells #[.slice A T.length c, .int .i64 ((k : Nat) + (wi : Nat) - 1 : Int), .map (some w.heap.size), .map (some (w.heap.size + 1))] 110)
    rwa [show ((w.alloc (.map #[] 0)).alloc (.map #[] 0)).heap.size = w.heap.size + 1 + 1 from by simp] at this
  have m4 : W1.heap[w.heap.size + 1 + 1 + 1]? = some (.map #[] 0) := by
    rw [hW1, heap_alloc_old _ _ (by simp)]
    have := heap_alloc_new (((w.alloc (.map #[] 0)).alloc (.map #[] 0)).alloc (.cells #[.slice A T.length c, .int .i64 ((k : Nat) + (wi : Nat) - 1 : Int), .map (some w.heap.size), .map (some (w.heap.size + 1))] 110)) (.map #[] 0)
    rwa [show (((w.alloc (.map #[] 0)).alloc (.map #[] 0)).alloc (.cells #[.slice A T.length c, .int .i64 ((k : Nat) + (wi : Nat) - 1 : Int), .map (some w.heap.size), .map (some (w.heap.size + 1))] 110)).heap.size = w.heap.size + 1 + 1 + 1 from by simp] at this
  have m5 : W1.heap[w.heap.size + 1 + 1 + 1 + 1]? = some (.cells (madeCells #[.slice none 0 0] T.length) TPs (0, 0)) := by
    rw [hW1]
    have := heap_alloc_new ((((w.alloc (.map #[] 0)).alloc (.map #[] 0)).alloc (.cells #[.slice A T.length c, .int .i64 ((k : Nat) + (wi : Nat) - 1 : Int), .map (some w.heap.size), .map (some (w.heap.size + 1))] 110)).alloc (.map #[] 0)) (.cells (madeCells #[.slice none 0 0] T.length) 74)
    rwa [show ((((w.alloc (.map #[] 0)).alloc (.map #[] 0)).alloc (.cells #[.slice A T.length c, .int .i64 ((k : Nat) + (wi : Nat) - 1 : Int), .map (some w.heap.size), .map (some (w.heap.size + 1))] 110)).alloc (.map #[] 0)).heap.size = w.heap.size + 1 + 1 + 1 + 1 from by simp] at this
  rw [show ((k : Nat) + (wi : Nat) - 1 : Int) = ((k + wi - 1 : Nat) : Int) from by omega] at m3
  have HFin : Aside0 (FinRep W1 (w.heap.size + 1 + 1) w.heap.size (w.heap.size + 1) A T.length c (k + wi - 1) Kl.Fin.start) :=
    ⟨⟨m3, (HasMap.new W1 W1 m1 : HasMap kvD W1 w.heap.size (fun _ => none)), (HasMap.new W1 W1 m2 : HasMap kvC W1 (w.heap.size + 1) (fun _ => none)), by omega⟩⟩
  have HPl : Aside0 (PlRep W1 w.heap.size (w.heap.size + 1 + 1 + 1) (Kl.placesTo (prT T k wi) 0 0) (fun _ => .slice none 0 0)) := ⟨by rw [Kl.placesTo_zero]; exact PlRep.new m4⟩
  have HPr : Aside0 (PrRep W1 w.heap.size (w.heap.size + 1 + 1 + 1 + 1) (madeCells #[.slice none 0 0] T.length) T.length 0 (psT T k wi)) :=
    ⟨⟨m5, by simp [size_madeCells], fun j hj => by omega⟩⟩
  have HB1 := Aside0.mk hb1
  have HNe : Aside0 (w.heap.size + 1 + 1 + 1 ≠ w.heap.size ∧ w.heap.size + 1 + 1 + 1 ≠ w.heap.size + 1) := ⟨by omega⟩
  clear m1 m2 m3 m4 m5 hb1 hW1
  have hbl : w.heap.size ≤ w.heap.size + 1 + 1 + 1 + 1 := by omega
  have hbp : w.heap.size ≤ w.heap.size + 1 + 1 + 1 := by omega
  have hbf : w.heap.size ≤ w.heap.size + 1 + 1 := by omega
  have hbo : w.heap.size ≤ w.heap.size + 1 := by omega
  generalize w.heap.size + 1 + 1 + 1 + 1 = bl at HPr hbl ⊢
  generalize w.heap.size + 1 + 1 + 1 = bp at HPl hbp HNe ⊢
  generalize w.heap.size + 1 + 1 = bf at HFin hbf ⊢
  generalize w.heap.size + 1 = bo at HFin hbo HNe ⊢
  obtain ⟨bs, hbs'⟩ : ∃ bs, bs = w.heap.size := ⟨_, rfl⟩
  have hbs : w.heap.size ≤ bs := by omega
  rw [← hbs'] at HFin HNe ⊢
  have HBs := Aside0.mk hbs'
  clear hbs'
  have HCM : Aside0 (CMem W1 w.heap.size bf bs bo bp bl A T.length c (k + wi - 1) Kl.Fin.start (Kl.placesTo (prT T k wi) 0 0) (fun _ => .slice none 0 0) (madeCells #[.slice none 0 0] T.length) 0 (psT T k wi)) := ⟨⟨HFin.out, HPl.out, HPr.out, HNe.out.1, HNe.out.2⟩⟩
  clear HFin HPl HPr HNe
  have HPS : Aside0 (∀ i, i < T.length → psT T k wi i = prS k wi (txt (T.getD i ⟨ByteArray.empty, []⟩).f1)) := ⟨fun i hi => by rw [psT_txt k wi hi, List.getD_eq_getElem?_getD, List.getElem?_eq_getElem hi]; rfl⟩
  have HPL : Aside0 (∀ i, (prT T k wi i).length ≤ 8192) := ⟨fun i => prT_length HV.out hk0 hw0 i⟩
  go_loopg [41] T.length (fun gg v41 wr => ∃ (i : Nat) (arr : Array Value) (vs : Int → Value), v41 = .int .i64 i ∧ Aside0 (i + gg = T.length) ∧
      Aside0 (CMem wr w.heap.size bf bs bo bp bl A T.length c (k + wi - 1) Kl.Fin.start (Kl.placesTo (prT T k wi) i 0) vs arr i (psT T k wi)) ∧ Aside0 (Below w.heap.size w wr))
  case atStart => exact ⟨0, _, _, rfl, ⟨by omega⟩, HCM, HB1⟩
  case round =>
    obtain ⟨i, arr, vs, rfl, HK, HI, HB⟩ := hrel
    obtain ⟨gq, hgq⟩ : ∃ gq, gq = gk := ⟨_, rfl⟩
    rw [← hgq] at HK
    have HGq := Aside0.mk hgq
    clear hgq
    clear HCM HB1 W1
    by_cases hi : i < T.length
    · have hib : decide ((i : Int) < (T.length : Int)) = true := by simp; omega
      obtain ⟨ad, A1, c1, eA, cw0, cw1, hc1, hC1⟩ := at_tx (Kd.C_below HC.out HB.out) hi
      have hcc : ∀ (W : World), MaxAt W → Kd.C kLx W A1 T[i].f1.length T[i].f1 → Calls Tryz.prog 29 #[.agg #[.string T[i].f0, .slice A1 T[i].f1.length c1], .int .i64 (k : Nat), .int .i64 (wi : Nat)] W fun e w' =>
          ∃ v, e = .returned (.tuple #[v, .int .i64 0]) ∧ Kd.R kPr TPr w' W.heap.size Yes v (psT T k wi i) ∧ Below W.heap.size W w' := fun W hM hC => by
        rw [psT_txt k wi hi]
        exact prints_calls T[i] (HS.out _ (List.getElem_mem hi)) (HV.out _ (List.getElem_mem hi)) A1 c1 W hM hC hc1 k wi hk0 hk1 hw0 hw1
      subst eA
      have HC1 := Aside0.mk hC1
      have HCall := Aside0.mk hcc
      clear hC1 hcc hc1
      generalize T[i] = ti at cw0 cw1 HC1 HCall
      have HB0 : Aside0 (Below wr.heap.size wr (wr.alloc (.cells #[.string ti.f0, .slice A1 ti.f1.length c1] 25))) := ⟨(Below.refl _ _).alloc (Nat.le_refl _) _⟩
      go_wp2_with fail
      (with_reducible refine (HCall.out _ ((HM.out.of HB.out).of HB0.out) (Kd.C_below HC1.out HB0.out)).mono ?_)
      rintro e w2 ⟨v, rfl, hr, hb⟩
      have HB2 : Aside0 (Below wr.heap.size wr w2) := ⟨HB0.out.trans (hb.mono HB0.out.size)⟩
      obtain ⟨D, d, rfl, hd, hCd⟩ := Kd.R_reads hr
      have hset := (HI.out.below HB2.out).set hi (Kd.R_lower hr (Nat.le_trans HB.out.size HB0.out.size))
      have hcell := ((HI.out.below HB2.out).pr.head)
      have hfro := frozen_of_row w2 bl i _ _ hcell
      obtain ⟨old, hold⟩ := (HI.out.below HB2.out).pr.cell hi
      have HSet := Aside0.mk hset
      have HB3 : Aside0 (Below w.heap.size w (w2.setCell ⟨bl, i, none⟩ (.slice D (psT T k wi i).length d))) := ⟨(HB.out.trans (HB2.out.mono HB.out.size)).setCell hbl _⟩
      clear hr hb hd hCd hset hcell
      go_wp2_with fail
      clear hold hfro cw0 cw1 HC1 HCall HB0 HB2 HB HI hib
      obtain ⟨W3, hW3⟩ : ∃ W3, W3 = w2.setCell ⟨bl, i, none⟩ (.slice D (psT T k wi i).length d) := ⟨_, rfl⟩
      rw [← hW3]
      rw [← hW3] at HSet HB3
      clear hW3
      obtain ⟨arr', hca, hR⟩ : ∃ arr', CMem W3 w.heap.size bf bs bo bp bl (some ad) T.length c (k + wi - 1) Kl.Fin.start (Kl.placesTo (prT T k wi) i 0) vs arr' (i + 1) (psT T k wi) ∧ Kd.R kPr TPr W3 w.heap.size Yes (.slice D (psT T k wi i).length d) (psT T k wi i) := ⟨_, HSet.out.1, HSet.out.2⟩
      have HI := Aside0.mk hca
      have HR := Aside0.mk hR
      have HPl := Aside0.mk (psT_length T k wi i)
      have hpb := HPL.out i
      clear hca hR HSet
      go_loopg [61] (psT T k wi i).length (fun gg v61 wr => ∃ (m : Nat) (vs : Int → Value), v61 = .int .i64 m ∧ Aside0 (m + gg = (psT T k wi i).length) ∧
          Aside0 (CMem wr w.heap.size bf bs bo bp bl (some ad) T.length c (k + wi - 1) Kl.Fin.start (Kl.placesTo (prT T k wi) i m) vs arr' (i + 1) (psT T k wi)) ∧
          Aside0 (Kd.R kPr TPr wr w.heap.size Yes (.slice D (psT T k wi i).length d) (psT T k wi i)) ∧ Aside0 (Below w.heap.size w wr))
      case atStart => exact ⟨0, _, rfl, ⟨by omega⟩, HI, HR, HB3⟩
      case round =>
        obtain ⟨m, vs', rfl, HKm, HI', HR', HB'⟩ := hrel
        clear HI HR HB3 W3 vs
        by_cases hm : m < (psT T k wi i).length
        · have hmb : decide ((m : Int) < ((psT T k wi i).length : Int)) = true := by simp; omega
          have hm' : m < (prT T k wi i).length := by have := HPl.out; omega
          obtain ⟨ad1, e1, q0, q1⟩ := at_pr (Kd.R_reads' HR'.out).2.2 hm
          subst e1
          rw [psT_get hm'] at q0 q1
          simp only at q0 q1
          have hst := Kl.placesTo_step hm'
          have HLen : Aside0 (∀ h, (Kl.placesTo (prT T k wi) i m h).length ≤ 201 * 8192) := ⟨fun h => Nat.le_trans (Kl.placesTo_length (B := 8192) (fun j _ => HPL.out j) h) (Nat.mul_le_mul_right 8192 (by omega : i + 1 ≤ 201))⟩
          have HSt := Aside0.mk hst
          clear hst
          generalize (prT T k wi i)[m].1 = s at q0 HSt
          generalize (prT T k wi i)[m].2 = x at q1 HSt
          go_wp2_with fail
          obtain ⟨W4, hW4⟩ : ∃ W4, W4 = wr.alloc (.cells #[.int .i64 s, .int .i64 (x : Nat)] 88) := ⟨_, rfl⟩
          rw [← hW4]
          have hnew := heap_alloc_new wr (.cells #[.int .i64 s, .int .i64 (x : Nat)] 88)
          rw [← hW4] at hnew
          have hb4 : Below wr.heap.size wr W4 := by rw [hW4]; exact (Below.refl _ _).alloc (Nat.le_refl _) _
          have x0 : W4.cell? ⟨wr.heap.size, 0, none⟩ = some (.int .i64 s) := World.news_of_block hnew 0 _ rfl
          have x1 : W4.cell? ⟨wr.heap.size, 1, none⟩ = some (.int .i64 (x : Nat)) := World.news_of_block hnew 1 _ rfl
          have HI4 := Aside0.mk (HI'.out.below hb4)
          have HR4 := Aside0.mk (Kd.R_below HR'.out hb4)
          have HB4 : Aside0 (Below w.heap.size w W4) := ⟨HB'.out.trans (hb4.mono HB'.out.size)⟩
          clear hb4 hW4 q0 q1 HI' HR' HB'
          have H16 : Aside0 (wr.heap.size < W4.heap.size ∧ W4.drew.heap[wr.heap.size]? = some (.cells #[.int .i64 s, .int .i64 (x : Nat)] 88 (0, 0))) := ⟨(Array.getElem?_eq_some_iff.1 hnew).1, hnew⟩
          clear hnew
          generalize wr.heap.size = b16 at x0 x1 H16 ⊢
          clear wr
          have hl1 : (Instr.lookup 111 (.map (some bp)) (.int .i64 s) false).run Tryz.prog W4.drew = .ok (vs' s) W4.drew := (HI4.out.below (pw_below_drewN (Below.refl _ _) 1)).pl.look s
          have hl2 : (Instr.lookup 111 (.map (some bp)) (.int .i64 s) false).run Tryz.prog (W4.alloc (.cells #[.int .i64 (i : Nat), .int .i64 (x : Nat)] 115)).drew = .ok (vs' s) (W4.alloc (.cells #[.int .i64 (i : Nat), .int .i64 (x : Nat)] 115)).drew :=
            (HI4.out.below (((Below.refl _ _).alloc (Nat.le_refl _) _).drew)).pl.look s
          have e16 : W4.heap.size ≠ b16 := World.new_ne W4 _ x0
          have hbd : Below W4.heap.size W4 W4.drew := (Below.refl _ _).drew
          have hI4d := HI4.out.below hbd
          have hR4d := Kd.R_below HR4.out hbd
          clear hbd
          have hB4d : Below w.heap.size w W4.drew := HB4.out.drew
          have aO : Kd.R kPr TPl W4.drew w.heap.size Yes (vs' s) (plS (Kl.placesTo (prT T k wi) i m s)) := hI4d.pl.row s
          have aL : ((plS (Kl.placesTo (prT T k wi) i m s)).length + 1) * 16 ≤ 140737488355328 := by
            rw [plS_length]
            have := HLen.out s
            omega
          have hne : (vs' s).ownBlock ≠ some b16 := fun e => by
            obtain ⟨_, _, cells, hc⟩ := R_typed aO e
            rw [H16.out.2] at hc
            injection hc with hc
            injection hc with _ hc
            exact absurd hc (by decide)
          have hnb : bp ≠ b16 := fun e => by
            obtain ⟨es, cl, hm, _⟩ := hI4d.pl.map
            rw [e, H16.out.2] at hm; cases hm
          have HAll := Aside0.mk (And.intro hI4d (And.intro hR4d hB4d))
          have HAO := Aside0.mk aO
          have HAL := Aside0.mk aL
          have HNB := Aside0.mk (And.intro hne hnb)
          clear hI4d hR4d hB4d aO aL hne hnb
          go_region_held3 (fun w' => w'.cell? ⟨b16, 0, none⟩ = some (.int .i64 s) ∧ w'.cell? ⟨b16, 1, none⟩ = some (.int .i64 (x : Nat))) (first | go_keep | exact y01 | exact z01)
            ((refine Kd.R_append_step kPr (w0 := w) (W := W4.drew) w.heap.size (by rfl) (.tmp 71) (.tmp 76) 113 TPl (.agg #[.int .i64 0, .int .i64 0]) 16 (by rfl) Tryz.underlying113 infoPl (by rfl) (by decide) (by omega)
                (vs' s) (plS (Kl.placesTo (prT T k wi) i m s)) (((i : Nat) : Int), ((x : Nat) : Int)) [.int .i64 (i : Nat), .int .i64 (x : Nat)] Yes (fun _ => False) (by rfl) (by rfl) (kPr_mkM _ _ _ _) (fun _ hk => hk.elim) (fun _ _ => trivial) HAO.out HAll.out.2.2 HAll.out.2.2.size HAL.out ?_
              intro v1 w1 ho hb hg hat
              have y01 : w1.cell? ⟨b16, 0, none⟩ = some (.int .i64 s) ∧ w1.cell? ⟨b16, 1, none⟩ = some (.int .i64 (x : Nat)) := ⟨hg.cell x0 (fun e => HNB.out.1 e.symm), hg.cell x1 (fun e => HNB.out.1 e.symm)⟩
              obtain ⟨w2, st, hg2, hcm, hrr⟩ := HAll.out.1.push (y := ⟨i, x⟩) hg ho hat
              have z01 : w2.cell? ⟨b16, 0, none⟩ = some (.int .i64 s) ∧ w2.cell? ⟨b16, 1, none⟩ = some (.int .i64 (x : Nat)) := ⟨hg2.cell y01.1 (fun e => HNB.out.2 (by injection e with e; exact e.symm)), hg2.cell y01.2 (fun e => HNB.out.2 (by injection e with e; exact e.symm))⟩))
          all_goals
            have hq : CMem w2 w.heap.size bf bs bo bp bl (some ad) T.length c (k + wi - 1) Kl.Fin.start (Kl.placesTo (prT T k wi) i (m + 1)) (fun h => if h = s then v1 else vs' h) arr' (i + 1) (psT T k wi) := by
              refine cast (congrArg (fun Q => CMem w2 w.heap.size bf bs bo bp bl (some ad) T.length c (k + wi - 1) Kl.Fin.start Q (fun h => if h = s then v1 else vs' h) arr' (i + 1) (psT T k wi)) (funext fun d => ?_)) hcm
              rw [HSt.out d]
              by_cases g : d = s
              · simp [g]
              · simp [g]
            have HQ := Aside0.mk hq
            have HQR := Aside0.mk (hrr _ _ HAll.out.2.1)
            have HQB : Aside0 (Below w.heap.size w w2) := ⟨hb.grown hg2 hb.size (by rintro q hq; injection hq with hq; omega)⟩
            clear hq ho hb hg hat y01 z01 st hg2 hcm hrr x0 x1 hl1 hl2
            go_wp2_with fail
            go_roundg (gk - 1)
            case measure => have := HKm.out; omega
            case rel => exact ⟨m + 1, _, by go_num, ⟨by have := HKm.out; omega⟩, HQ, HQR, HQB⟩
        · have hmb : decide ((m : Int) < ((psT T k wi i).length : Int)) = false := by simp; omega
          have HE : Aside0 (Kl.placesTo (prT T k wi) i m = Kl.placesTo (prT T k wi) (i + 1) 0) := ⟨Kl.placesTo_end (by have := HKm.out; have := HPl.out; omega)⟩
          rw [HE.out] at HI'
          go_wp2_with fail
          have hG := HGq.out
          go_roundg (gq - 1)
          case measure => have := HK.out; omega
          case rel => exact ⟨i + 1, _, _, by go_num, ⟨by have := HK.out; omega⟩, HI', HB'⟩
    · have hib : decide ((i : Int) < (T.length : Int)) = false := by simp; omega
      obtain rfl : i = T.length := by have := HK.out; omega
      rw [Kl.placesTo_all] at HI
      go_wp2_with fail
      obtain ⟨W5, hW5⟩ : ∃ W5, W5 = wr := ⟨_, rfl⟩
      have HP0 : Aside0 (P2 w W5 wr bf bs bo A T c (k + wi - 1) (Kl.pairsTo (prT T k wi) (Kl.places (prT T k wi) T.length) 0 0 0)) := ⟨by
        rw [Kl.pairsTo_zero]
        exact ⟨HI.out.fin, HB.out, by rw [hW5]; exact Kept.refl _ _, [], List.nodup_nil, by simp, fun c => by simp [Kl.looks, Kl.Fin.start]⟩⟩
      rw [← hW5] at HI HB
      have HL1 : Aside0 (∀ i, i < T.length → ∃ D d, ∀ W, Kept W5 W (fun k => k = bs ∨ k = bo) → W.cell? ⟨bl, i, none⟩ = some (.slice D (psT T k wi i).length d) ∧ (psT T k wi i).length ≤ d ∧ Kd.C kPr W D (psT T k wi i).length (psT T k wi i)) := ⟨fun i hi => HI.out.later_at hi⟩
      have HL2 : Aside0 (∀ s, ∃ D d, vs s = .slice D (Kl.places (prT T k wi) T.length s).length d ∧ (Kl.places (prT T k wi) T.length s).length ≤ d ∧ ∀ W, Kept W5 W (fun k => k = bs ∨ k = bo) → Kd.C kPr W D (Kl.places (prT T k wi) T.length s).length (plS (Kl.places (prT T k wi) T.length s)) ∧
          (Instr.lookup 111 (.map (some bp)) (.int .i64 s) false).run Tryz.prog W = .ok (.slice D (Kl.places (prT T k wi) T.length s).length d) W) := ⟨fun s => HI.out.later_row s⟩
      clear hW5 hib HK HI
      have HQ : Aside0 (∀ s y, y ∈ Kl.places (prT T k wi) T.length s → ∃ hi : y.text < T.length, y.at_ < (T[y.text]'hi).f1.length) := ⟨fun s y h => places_bound hk0 hw0 h⟩
      have HQl : Aside0 (∀ s, (Kl.places (prT T k wi) T.length s).length ≤ 200 * 8192) := ⟨fun s => Nat.le_trans (Kl.places_length (B := 8192) T.length (fun j _ => HPL.out j) s) (Nat.mul_le_mul_right 8192 hT)⟩
      generalize hQ : Kl.places (prT T k wi) T.length = Q at HP0 HL2 HQ HQl
      have HQe := Aside0.mk hQ
      clear hQ
      go_loopg [82] T.length (fun gg v82 wr => ∃ (i : Nat), v82 = .int .i64 i ∧ Aside0 (i + gg = T.length) ∧ Aside0 (P2 w W5 wr bf bs bo A T c (k + wi - 1) (Kl.pairsTo (prT T k wi) Q i 0 0)))
      case atStart => exact ⟨0, rfl, ⟨by omega⟩, HP0⟩
      case round =>
        obtain ⟨i, rfl, HK, HP⟩ := hrel
        obtain ⟨gq, hgq⟩ : ∃ gq, gq = gk := ⟨_, rfl⟩
        rw [← hgq] at HK
        have HGq := Aside0.mk hgq
        clear hgq HP0
        by_cases hi : i < T.length
        · have hib : decide ((i : Int) < (T.length : Int)) = true := by simp; omega
          obtain ⟨D, d, hDD⟩ := HL1.out i hi
          obtain ⟨cp, hd, _⟩ := hDD _ HP.out.kept
          have HPl := Aside0.mk (psT_length T k wi i)
          have HD : Aside0 (∀ W, Kept W5 W (fun k => k = bs ∨ k = bo) → Kd.C kPr W D (psT T k wi i).length (psT T k wi i)) := ⟨fun W hk => (hDD W hk).2.2⟩
          clear hDD
          go_wp2_with fail
          go_loopg [89] (psT T k wi i).length (fun gg v89 wr => ∃ (m : Nat), v89 = .int .i64 m ∧ Aside0 (m + gg = (psT T k wi i).length) ∧ Aside0 (P2 w W5 wr bf bs bo A T c (k + wi - 1) (Kl.pairsTo (prT T k wi) Q i m 0)))
          case atStart => exact ⟨0, rfl, ⟨by omega⟩, HP⟩
          case round =>
            obtain ⟨m, rfl, HKm, HPm⟩ := hrel
            obtain ⟨gqm, hgqm⟩ : ∃ gqm, gqm = gk := ⟨_, rfl⟩
            rw [← hgqm] at HKm
            have HGqm := Aside0.mk hgqm
            clear hgqm
            by_cases hm : m < (psT T k wi i).length
            · have hmb : decide ((m : Int) < ((psT T k wi i).length : Int)) = true := by simp; omega
              have hm' : m < (prT T k wi i).length := by have := HPl.out; omega
              have hpb := HPL.out i
              obtain ⟨ad1, e1, q0, q1⟩ := at_pr (HD.out _ HPm.out.kept) hm
              subst e1
              rw [psT_get hm'] at q0 q1
              simp only at q0 q1
              have HPs := Aside0.mk (fun j => @Kl.pairsTo_step (prT T k wi) Q i m j hm')
              have HPn := Aside0.mk (fun j => @Kl.pairsTo_next (prT T k wi) Q i m j hm')
              have HPp := Aside0.mk (fun j => @Kl.pairsTo_prefix (prT T k wi) Q T.length i m j hi hm')
              have hxb := prT_bound hk0 hw0 (List.getElem_mem hm') hi
              generalize (prT T k wi i)[m].1 = s at q0 HPs HPn
              generalize (prT T k wi i)[m].2 = x at q1 HPs HPn hxb
              obtain ⟨V, v, eV, hVle, hV⟩ := HL2.out s
              have hbx : Below wr.heap.size wr ((wr.alloc (.cells #[.int .i64 s, .int .i64 (x : Nat)] 88)).alloc (.cells #[.int .i64 (i : Nat), .int .i64 (x : Nat)] 115)) := ((Below.refl _ _).alloc (Nat.le_refl _) _).alloc (by simp) _
              have hlk := (hV _ (HPm.out.below hbx).kept).2
              have HVC : Aside0 (∀ W, Kept W5 W (fun k => k = bs ∨ k = bo) → Kd.C kPr W V (Q s).length (plS (Q s))) := ⟨fun W hk => (hV W hk).1⟩
              have HPb := Aside0.mk (HPm.out.below hbx)
              have hnew : ((wr.alloc (.cells #[.int .i64 s, .int .i64 (x : Nat)] 88)).alloc (.cells #[.int .i64 (i : Nat), .int .i64 (x : Nat)] 115)).heap[wr.heap.size + 1]? = some (.cells #[.int .i64 (i : Nat), .int .i64 (x : Nat)] 115 (0, 0)) := by
                have := heap_alloc_new (wr.alloc (.cells #[.int .i64 s, .int .i64 (x : Nat)] 88)) (.cells #[.int .i64 (i : Nat), .int .i64 (x : Nat)] 115)
                rwa [show (wr.alloc (.cells #[.int .i64 s, .int .i64 (x : Nat)] 88)).heap.size = wr.heap.size + 1 from by simp] at this
              have HX : Aside0 (((wr.alloc (.cells #[.int .i64 s, .int .i64 (x : Nat)] 88)).alloc (.cells #[.int .i64 (i : Nat), .int .i64 (x : Nat)] 115)).cell? ⟨wr.heap.size + 1, 0, none⟩ = some (.int .i64 (i : Nat)) ∧
                  ((wr.alloc (.cells #[.int .i64 s, .int .i64 (x : Nat)] 88)).alloc (.cells #[.int .i64 (i : Nat), .int .i64 (x : Nat)] 115)).cell? ⟨wr.heap.size + 1, 1, none⟩ = some (.int .i64 (x : Nat))) := ⟨World.news_of_block hnew 0 _ rfl, World.news_of_block hnew 1 _ rfl⟩
              have hnb : wr.heap.size + 1 ≠ bs ∧ wr.heap.size + 1 ≠ bo := by
                have := HPm.out.fin.lt
                omega
              clear hV eV hnew hbx
              go_wp2_with fail
              clear hlk HPm q0 q1
              obtain ⟨W6, hW6⟩ : ∃ W6, W6 = ((wr.alloc (.cells #[.int .i64 s, .int .i64 (x : Nat)] 88)).alloc (.cells #[.int .i64 (i : Nat), .int .i64 (x : Nat)] 115)) := ⟨_, rfl⟩
              rw [← hW6]
              rw [← hW6] at HX HPb
              clear hW6
              generalize wr.heap.size + 1 = b21 at HX hnb ⊢
              generalize wr.heap.size = b20
              go_loopg [102] (Q s).length (fun gg v102 wr => ∃ (j : Nat), v102 = .int .i64 j ∧ Aside0 (j + gg = (Q s).length) ∧ Aside0 (P2 w W5 wr bf bs bo A T c (k + wi - 1) (Kl.pairsTo (prT T k wi) Q i m j)) ∧
                  Aside0 (wr.cell? ⟨b21, 0, none⟩ = some (.int .i64 (i : Nat)) ∧ wr.cell? ⟨b21, 1, none⟩ = some (.int .i64 (x : Nat))))
              case atStart => exact ⟨0, rfl, ⟨by omega⟩, HPb, HX⟩
              case round =>
                obtain ⟨j, rfl, HKj, HPj, HXj⟩ := hrel
                obtain ⟨gqj, hgqj⟩ : ∃ gqj, gqj = gk := ⟨_, rfl⟩
                rw [← hgqj] at HKj
                have HGqj := Aside0.mk hgqj
                clear hgqj HPb HX
                have hql := HQl.out s
                by_cases hj : j < (Q s).length
                · have hjb : decide ((j : Int) < ((Q s).length : Int)) = true := by simp; omega
                  obtain ⟨ad2, e2, y0, y1⟩ := at_pr (HVC.out _ HPj.out.kept) hj
                  subst e2
                  rw [plS_get _ hj] at y0 y1
                  simp only at y0 y1
                  have HPst := Aside0.mk (HPs.out j hj)
                  obtain ⟨hyt, hya⟩ := HQ.out s _ (List.getElem_mem hj)
                  generalize (Q s)[j] = y at y0 y1 HPst hyt hya
                  obtain ⟨yt, ya⟩ := y
                  simp only at y0 y1 hyt hya
                  go_upto_region 24 with fail
                  have hb7 : Below wr.heap.size wr (wr.alloc (.cells #[.int .i64 (yt : Nat), .int .i64 (ya : Nat)] 115)) := (Below.refl _ _).alloc (Nat.le_refl _) _
                  have hnew := heap_alloc_new wr (.cells #[.int .i64 (yt : Nat), .int .i64 (ya : Nat)] 115)
                  obtain ⟨W7, hW7⟩ : ∃ W7, W7 = wr.alloc (.cells #[.int .i64 (yt : Nat), .int .i64 (ya : Nat)] 115) := ⟨_, rfl⟩
                  rw [← hW7]
                  rw [← hW7] at hb7 hnew
                  have HP7 := Aside0.mk (HPj.out.below hb7)
                  have b210 : W7.cell? ⟨b21, 0, none⟩ = some (.int .i64 (i : Nat)) := (hb7.cell (World.block_lt_of_cell? _ _ HXj.out.1)).trans HXj.out.1
                  have b211 : W7.cell? ⟨b21, 1, none⟩ = some (.int .i64 (x : Nat)) := (hb7.cell (World.block_lt_of_cell? _ _ HXj.out.2)).trans HXj.out.2
                  have b230 : W7.cell? ⟨wr.heap.size, 0, none⟩ = some (.int .i64 (yt : Nat)) := World.news_of_block hnew 0 _ rfl
                  have b231 : W7.cell? ⟨wr.heap.size, 1, none⟩ = some (.int .i64 (ya : Nat)) := World.news_of_block hnew 1 _ rfl
                  clear hnew hb7 hW7 HPj HXj y0 y1
                  generalize wr.heap.size = b23 at b230 b231 ⊢
                  clear wr
                  go_cut [102, 145] from 102 to 156 (fun v102 v145 wx => v102 = .int .i64 (j : Nat) ∧ v145 = .bool (decide (¬ (⟨i, x⟩ : Plc).lt ⟨yt, ya⟩)) ∧ wx = W7)
                  case first =>
                    clear HPst HKj HKm HPs HPn HPp HQ HL1 HL2 HVC HP7
                    rcases Nat.lt_trichotomy yt i with g | g | g
                    · have he : ∀ d W, (Op.equalIn (d + 2) TPl (.agg #[.int .i64 (yt : Nat), .int .i64 (ya : Nat)]) (.agg #[.int .i64 (i : Nat), .int .i64 (x : Nat)])).run Tryz.prog W = .ok false W := fun d W => by
                        rw [eqP, cast_beq, decide_eq_false (by omega)]; rfl
                      have l1 : decide ((yt : Int) < (i : Int)) = true := by simp; omega
                      have HE : Aside0 (decide (¬ (⟨i, x⟩ : Plc).lt ⟨yt, ya⟩) = true) := ⟨decide_eq_true (by unfold Kl.Plc.lt; simp only; omega)⟩
                      go_wp2_with fail
                      go_meet
                      exact ⟨rfl, by (rw [HE.out] <;> simp <;> omega), rfl⟩
                    · subst g
                      rcases Nat.lt_trichotomy ya x with g | g | g
                      · have he : ∀ d W, (Op.equalIn (d + 2) TPl (.agg #[.int .i64 (yt : Nat), .int .i64 (ya : Nat)]) (.agg #[.int .i64 (yt : Nat), .int .i64 (x : Nat)])).run Tryz.prog W = .ok false W := fun d W => by
                          rw [eqP, cast_beq, cast_beq, decide_eq_false (show ¬ ya = x by omega)]; simp
                        have l2 : decide ((ya : Int) < (x : Int)) = true := by simp; omega
                        have HE : Aside0 (decide (¬ (⟨yt, x⟩ : Plc).lt ⟨yt, ya⟩) = true) := ⟨decide_eq_true (by unfold Kl.Plc.lt; simp only; omega)⟩
                        go_wp2_with fail
                        go_meet
                        exact ⟨rfl, by (rw [HE.out] <;> simp <;> omega), rfl⟩
                      · subst g
                        have he : ∀ d W, (Op.equalIn (d + 2) TPl (.agg #[.int .i64 (yt : Nat), .int .i64 (ya : Nat)]) (.agg #[.int .i64 (yt : Nat), .int .i64 (ya : Nat)])).run Tryz.prog W = .ok true W := fun d W => by
                          rw [eqP]; simp
                        have HE : Aside0 (decide (¬ (⟨yt, ya⟩ : Plc).lt ⟨yt, ya⟩) = true) := ⟨decide_eq_true (by unfold Kl.Plc.lt; simp only; omega)⟩
                        go_wp2_with fail
                        go_meet
                        exact ⟨rfl, by (rw [HE.out] <;> simp <;> omega), rfl⟩
                      · have he : ∀ d W, (Op.equalIn (d + 2) TPl (.agg #[.int .i64 (yt : Nat), .int .i64 (ya : Nat)]) (.agg #[.int .i64 (yt : Nat), .int .i64 (x : Nat)])).run Tryz.prog W = .ok false W := fun d W => by
                          rw [eqP, cast_beq, cast_beq, decide_eq_false (show ¬ ya = x by omega)]; simp
                        have l2 : decide ((ya : Int) < (x : Int)) = false := by simp; omega
                        have HE : Aside0 (decide (¬ (⟨yt, x⟩ : Plc).lt ⟨yt, ya⟩) = false) := ⟨decide_eq_false (fun h => h (.inr ⟨rfl, g⟩))⟩
                        go_wp2_with fail
                        go_meet
                        exact ⟨rfl, by (rw [HE.out] <;> simp <;> omega), rfl⟩
                    · have he : ∀ d W, (Op.equalIn (d + 2) TPl (.agg #[.int .i64 (yt : Nat), .int .i64 (ya : Nat)]) (.agg #[.int .i64 (i : Nat), .int .i64 (x : Nat)])).run Tryz.prog W = .ok false W := fun d W => by
                        rw [eqP, cast_beq, decide_eq_false (by omega)]; rfl
                      have l1 : decide ((yt : Int) < (i : Int)) = false := by simp; omega
                      have l2 : ((yt : Int) == (i : Int)) = false := by rw [cast_beq]; exact decide_eq_false (by omega)
                      have HE : Aside0 (decide (¬ (⟨i, x⟩ : Plc).lt ⟨yt, ya⟩) = false) := ⟨decide_eq_false (fun h => h (by unfold Kl.Plc.lt; simp only; omega))⟩
                      go_wp2_with fail
                      go_meet
                      exact ⟨rfl, by (rw [HE.out] <;> simp <;> omega), rfl⟩
                  case rest =>
                    obtain ⟨rfl, rfl, rfl⟩ := hcut
                    by_cases hlt : (⟨i, x⟩ : Plc).lt ⟨yt, ya⟩
                    · rw [decide_eq_false (fun h => h hlt)]
                      rw [if_pos hlt] at HPst
                      have hlk := look_calls T A c (k + wi - 1) (Kl.looks (tw T) (k + wi - 1) (Kl.pairsTo (prT T k wi) Q i m j)) w wc bf bs bo HP7.out.fin HC.out HP7.out.low hbs hbo ⟨i, x⟩ ⟨yt, ya⟩ hi hyt hxb hya (fun t ht => (HS.out t ht).2.1) (by omega) (by omega)
                      go_wp2_with fail
                      (with_reducible refine (hlk).mono ?_)
                      rintro e w8 ⟨rfl, hf8, hb8, hk8⟩
                      have e8 : Kl.look (tw T) (k + wi - 1) (Kl.looks (tw T) (k + wi - 1) (Kl.pairsTo (prT T k wi) Q i m j)) (⟨i, x⟩, ⟨yt, ya⟩) = Kl.looks (tw T) (k + wi - 1) (Kl.pairsTo (prT T k wi) Q i m (j + 1)) := by
                        rw [HPst.out, Kl.looks_snoc]
                      rw [e8] at hf8
                      clear e8
                      obtain ⟨es, clock, hes, D, hDn, hDl, hDm⟩ := hf8.count
                      have HDn := Aside0.mk hDn
                      have HDl := Aside0.mk hDl
                      have HDm := Aside0.mk hDm
                      have hlen := run_len_map (P := Tryz.prog) Tryz.underlying108 hes 3
                      obtain ⟨f80, f81, f82, f83⟩ := hf8.cell
                      have HF8 := Aside0.mk hf8
                      have HLow8 : Aside0 (Below w.heap.size w w8) := ⟨HP7.out.low.trans hb8⟩
                      have HK8 : Aside0 (Kept W5 w8 (fun k => k = bs ∨ k = bo)) := ⟨HP7.out.kept.then_ hk8 (fun k h => .inl h)⟩
                      have HX8 : Aside0 (w8.cell? ⟨b21, 0, none⟩ = some (.int .i64 (i : Nat)) ∧ w8.cell? ⟨b21, 1, none⟩ = some (.int .i64 (x : Nat))) := ⟨cell_kept b210 hk8 (by simp; omega), cell_kept b211 hk8 (by simp; omega)⟩
                      clear hDn hDl hDm hes hf8 hb8 hk8 hlk b210 b211 b230 b231 HP7 f80 f81 f82
                      by_cases hbig : 1024 < es.size
                      · have hbb : decide ((1024 : Int) < (es.size : Int)) = true := by simp; omega
                        go_wp2_with fail
                        go_ret2
                        refine ⟨HLow8.out, ?_⟩
                        obtain ⟨R, hR⟩ := HPp.out (j + 1)
                        obtain ⟨L, h1, h2⟩ := found_many hk0 hw0 (by rw [HQe.out]; exact hR) HDn.out HDm.out
                        exact ⟨L, h1, .inr ⟨by have := HDl.out; omega, rfl⟩⟩
                      · have hbb : decide ((1024 : Int) < (es.size : Int)) = false := by simp; omega
                        go_wp2_with fail
                        have hG := HGqj.out
                        go_roundg (gqj - 1)
                        case measure => have := HKj.out; omega
                        case rel => exact ⟨j + 1, by go_num, ⟨by have := HKj.out; omega⟩, ⟨⟨HF8.out, HLow8.out, HK8.out, D, HDn.out, by have := HDl.out; omega, HDm.out⟩⟩, HX8⟩
                    · rw [decide_eq_true hlt]
                      rw [if_neg hlt] at HPst
                      rw [← HPst.out] at HP7
                      go_wp2_with fail
                      have hG := HGqj.out
                      go_roundg (gqj - 1)
                      case measure => have := HKj.out; omega
                      case rel => exact ⟨j + 1, by go_num, ⟨by have := HKj.out; omega⟩, HP7, ⟨b210, b211⟩⟩
                · have hjb : decide ((j : Int) < ((Q s).length : Int)) = false := by simp; omega
                  rw [HPn.out j (by omega)] at HPj
                  go_wp2_with fail
                  have hG := HGqm.out
                  go_roundg (gqm - 1)
                  case measure => have := HKm.out; omega
                  case rel => exact ⟨m + 1, by go_num, ⟨by have := HKm.out; omega⟩, HPj⟩
            · have hmb : decide ((m : Int) < ((psT T k wi i).length : Int)) = false := by simp; omega
              rw [Kl.pairsTo_end (by have := HPl.out; omega)] at HPm
              go_wp2_with fail
              have hG := HGq.out
              go_roundg (gq - 1)
              case measure => have := HK.out; omega
              case rel => exact ⟨i + 1, by go_num, ⟨by have := HK.out; omega⟩, HPm⟩
        · have hib : decide ((i : Int) < (T.length : Int)) = false := by simp; omega
          obtain rfl : i = T.length := by have := HK.out; omega
          rw [Kl.pairsTo_all] at HP
          have HF : Aside0 (∃ D : List Cl, D.Nodup ∧ D.length ≤ 1024 ∧ ∀ c, c ∈ D ↔ (Kl.looks (tw T) (k + wi - 1) (Kl.pairsN (prT T k wi) Q T.length)).found c ≠ none) := ⟨HP.out.few⟩
          obtain ⟨f0, f1, f2, f3⟩ := HP.out.fin.cell
          obtain ⟨es, clock, hes, L, hE, hgive⟩ := HP.out.fin.found
          have hbo' := HP.out.fin.lt.2.2
          have hrg := run_range_map (P := Tryz.prog) wr 108 TC 146 bo es clock Tryz.underlying108 hes
          have HEs := Aside0.mk hes
          have HE := Aside0.mk hE
          have HGive := Aside0.mk hgive
          clear hes hE hgive
          go_wp2_with fail
          clear hrg f0 f1 f2 f3
          have hlen : L.length ≤ 1024 := by
            obtain ⟨D, hn, hl, hm⟩ := HF.out
            refine Nat.le_trans ?_ hl
            rw [← List.length_map (f := fun x : Ent Cl => x.1)]
            refine Kl.length_le_of_nodup HE.out.keys fun x hx => ?_
            rw [hm]
            have := giveOf_mem.2 hx
            rw [← HGive.out x] at this
            unfold foundF at this
            intro e
            rw [e] at this
            exact this rfl
          obtain ⟨W9, hW9⟩ : ∃ W9, W9 = wr.alloc (.mapIter (some bo) clock #[] clock) := ⟨_, rfl⟩
          have hit : W9.heap[wr.heap.size]? = some (.mapIter (some bo) clock #[] clock) := by rw [hW9]; exact heap_alloc_new _ _
          have hsrc : W9.heap[bo]? = some (.map es clock) := by rw [hW9, heap_alloc_old _ _ hbo']; exact HEs.out
          have hlow : Below w.heap.size w W9 := by rw [hW9]; exact HP.out.low.trans ((Below.refl _ _).alloc HP.out.low.size _)
          have hr0 : w.heap.size ≤ wr.heap.size := HP.out.low.size
          rw [← hW9]
          clear hW9
          generalize wr.heap.size = r0 at hit hbo' hr0 ⊢
          have HRg0 : Aside0 (MapG.Ranged kvC es clock L bo r0 [] W9) := ⟨⟨hsrc, hit, by simp, by simp⟩⟩
          have HB9 := Aside0.mk hlow
          clear hit hsrc hlow
          go_loopg [24] L.length (fun kq v24 w' => ∃ D : List (Ent Cl), Aside0 (D.length + kq = L.length) ∧ Aside0 (MapG.Ranged kvC es clock L bo r0 D w') ∧ Aside0 (Kd.R Ref.k37 TC w' w.heap.size Yes v24 (D.map fun x => clS x.1)) ∧ Aside0 (Below w.heap.size w w'))
          case atStart => exact ⟨[], ⟨by simp⟩, HRg0, ⟨Kd.R_nil _ _ _ _ _⟩, HB9⟩
          case round =>
            obtain ⟨D, HKD, HRg, HR, HB⟩ := hrel
            rcases HRg.out.step (P := Tryz.prog) HE.out 0 (by omega) with ⟨hall, hrun⟩ | ⟨x, w1, hx, hlen', hrun, hent, hrg2, hgr⟩
            · have HA := Aside0.mk hall
              clear hall
              obtain ⟨hkn, hkm⟩ := MapG.Ranged.keys HE.out HRg.out HA.out
              have hKL : (D.map fun x => x.1).length ≤ 1024 := by
                rw [List.length_map]
                have := HKD.out
                omega
              have HKn := Aside0.mk hkn
              have HKm : Aside0 (∀ c, c ∈ D.map (fun x => x.1) ↔ (Kl.looks (tw T) (k + wi - 1) (Kl.pairsN (prT T k wi) Q T.length)).found c ≠ none) := ⟨fun c => by
                rw [hkm c, ← HGive.out c]
                unfold foundF
                cases (Kl.looks (tw T) (k + wi - 1) (Kl.pairsN (prT T k wi) Q T.length)).found c <;> simp⟩
              have HR' : Aside0 (Kd.R Ref.k37 TC wr w.heap.size Yes u24 ((D.map fun x => x.1).map clS)) := ⟨by rw [List.map_map]; exact HR.out⟩
              clear hkn hkm HR HA HRg HKD
              generalize D.map (fun x => x.1) = K0 at hKL HKn HKm HR'
              go_wp2_with fail
              (with_reducible refine (sort_calls _ _ _ _ HR'.out (by rw [List.length_map]; omega)).mono ?_)
              rintro e w2 ⟨rfl, hb2, ys, hperm, hpair, A1, c1, rfl, hc1, hC1⟩
              obtain ⟨LL, hLL, rfl⟩ := sorted_clones hk0 hw0 HKn.out (by rw [HQe.out]; exact HKm.out) hperm hpair
              have hll : LL.length = K0.length := by have := hperm.length_eq; simpa using this
              have HC1 := Aside0.mk hC1
              have HLL := Aside0.mk hLL
              have HB2 : Aside0 (Below w.heap.size w w2) := ⟨HB.out.trans hb2⟩
              have HLn := Aside0.mk hll
              have HCn := Aside0.mk hc1
              clear hC1 hLL hb2 hperm hpair hll hc1
              go_wp2_with fail
              go_ret2
              refine ⟨HB2.out, LL, HLL.out, .inl ⟨by rw [HLn.out]; exact hKL, A1, c1, ?_, ?_, ?_⟩⟩
              · rw [HLn.out]; simp
              · have := HCn.out; rw [List.length_map] at this; rw [HLn.out]; exact this
              · have := HC1.out; rw [List.length_map] at this; rw [HLn.out]; exact this
            · obtain ⟨⟨cA, cAtA, cB, cAtB, cLen⟩, xv, xs⟩ := x
              have hrun' : (Instr.next (.pointer (some ⟨r0, 0, none⟩)) false 0).run Tryz.prog wr = .ok (.tuple #[.bool true, .agg #[.int .i64 (cA : Nat), .int .i64 (cAtA : Nat), .int .i64 (cB : Nat), .int .i64 (cAtB : Nat), .int .i64 (cLen : Nat)], xv]) w1 := hrun
              have hent' : (Instr.entry (.pointer (some ⟨r0, 0, none⟩))).run Tryz.prog w1 = .ok (.tuple #[.agg #[.int .i64 (cA : Nat), .int .i64 (cAtA : Nat), .int .i64 (cB : Nat), .int .i64 (cAtB : Nat), .int .i64 (cLen : Nat)], xv]) w1 := hent
              clear hrun hent
              have ht1 : ∀ k cells, wr.heap[k]? = some (.cells cells TC (0, 0)) → ¬ some r0 = some k := fun k cells hc g => by
                injection g with g
                rw [← g, HRg.out.it] at hc; cases hc
              have hR1 := R_kept_tyG kClone_E HR.out (kept_grown hgr) ht1
              have hB1 : Below w.heap.size w w1 := HB.out.grown hgr HB.out.size (by rintro q hq; injection hq with hq; omega)
              have hbx : Below w1.heap.size w1 (w1.alloc (.cells #[.int .i64 (cA : Nat), .int .i64 (cAtA : Nat), .int .i64 (cB : Nat), .int .i64 (cAtB : Nat), .int .i64 (cLen : Nat)] TC)) := (Below.refl _ _).alloc (Nat.le_refl _) _
              have HRW := Aside0.mk (Kd.R_below hR1 hbx)
              have HBW := Aside0.mk (hB1.trans (hbx.mono hB1.size))
              have HRg2 := Aside0.mk (hrg2.kept (hbx.block _ (Array.getElem?_eq_some_iff.1 hrg2.src).1) (hbx.block _ (Array.getElem?_eq_some_iff.1 hrg2.it).1))
              have HLn := Aside0.mk hlen'
              have HRn := Aside0.mk (And.intro hR1 hbx)
              clear ht1 hR1 hB1 hbx hrg2 hlen'
              go_wp2_with ((with_reducible refine gate_builtin (b := .append) (xs := #[.tmp 168, .tmp 170]) rfl ?_); at_builtin; refine Kd.R_append Ref.k37 (w0 := w) w.heap.size rfl (.tmp 168) (.tmp 170) 29 TC (.agg #[.int .i64 0, .int .i64 0, .int .i64 0, .int .i64 0, .int .i64 0]) 40 rfl Tryz.underlying29 infoClone rfl (by decide) (by omega) u24 (D.map fun x => clS x.1) (clS ⟨cA, cAtA, cB, cAtB, cLen⟩) [.int .i64 (cA : Nat), .int .i64 (cAtA : Nat), .int .i64 (cB : Nat), .int .i64 (cAtB : Nat), .int .i64 (cLen : Nat)] (fun _ => True) (fun _ => False) rfl (by rw [World.size_alloc]; rfl) ?aP (fun _ hk => hk.elim) ?aF ?aO ?aB ?aS ?aL ?_)
              case aP => exact Ref.k37_mkM _ _ _ (clS ⟨cA, cAtA, cB, cAtB, cLen⟩)
              case aF => exact fun _ _ => trivial
              case aO => exact HRW.out
              case aB => exact HBW.out
              case aS => exact HBW.out.size
              case aL => rw [List.length_map]; have := HLn.out; omega
              intro v1 w5 ho hb hg hat
              have hn1 : some bo ≠ u24.ownBlock := fun e => by
                obtain ⟨_, _, cells, hc⟩ := R_typedG HRW.out e.symm
                rw [HRg2.out.src] at hc; cases hc
              have hn2 : some r0 ≠ u24.ownBlock := fun e => by
                obtain ⟨_, _, cells, hc⟩ := R_typedG HRW.out e.symm
                rw [HRg2.out.it] at hc; cases hc
              have HO5 : Aside0 (Kd.R Ref.k37 TC w5 w.heap.size Yes v1 ((D ++ [((⟨cA, cAtA, cB, cAtB, cLen⟩ : Cl), xv, xs)]).map fun x : Ent Cl => clS x.1)) := ⟨by rw [List.map_append]; exact ho⟩
              have HB5 := Aside0.mk hb
              have HRg5 := Aside0.mk (HRg2.out.kept (hg.block _ (Array.getElem?_eq_some_iff.1 HRg2.out.src).1 hn1) (hg.block _ (Array.getElem?_eq_some_iff.1 HRg2.out.it).1 hn2))
              clear ho hb hg hat hn1 hn2 hrun' hent'
              go_wp2_with fail
              go_roundg (gk - 1)
              case measure => have := HKD.out; have := HLn.out; omega
              case rel => exact ⟨_, ⟨by rw [List.length_append]; have := HKD.out; have := HLn.out; simp; omega⟩, HRg5, HO5, HB5⟩
end Go.Proofs.YtbakoigejihnaaaGreatDoor.Wp
end
section
set_option linter.unusedSectionVars false
set_option linter.unusedSimpArgs false
set_option linter.unusedVariables false
namespace Go.Proofs.YtbakoigejihnaaaGreatDoor.Wp
open Go.RowKit Go.MapG Go.MapKept Go.Proofs.YtbakoigejihnaaaGreatDoorW.PrintWords Go.Proofs.YtbakoigejihnaaaGreatDoorW.PrintLast Go.Proofs.YtbakoigejihnaaaGreatDoorW.PrintMore
open Kl (Diag Cl Plc)

theorem rightOk_valid : ∀ (T : List Tx) (p : Option ByteArray), rightOk p T = true → ∀ t, t ∈ T → validT t = true
  | [], _, _, t, ht => by cases ht
  | x :: T, p, h, t, ht => by
    unfold rightOk at h
    by_cases hv : validT x = true
    · rcases List.mem_cons.1 ht with rfl | ht
      · exact hv
      · rw [if_pos hv] at h
        cases p with
        | none => exact rightOk_valid T (some x.f0) h t ht
        | some q =>
          simp only at h
          by_cases hl : leS x.f0 q = true
          · rw [if_pos hl] at h; cases h
          · rw [if_neg hl] at h; exact rightOk_valid T (some x.f0) h t ht
    · rw [if_neg hv] at h; cases h

theorem guarantee_calls (k wi : Nat) (hk0 : 1 ≤ k) (hk1 : k ≤ 1024) (hw0 : 1 ≤ wi) (hw1 : wi ≤ 1024) (w : World) :
    Calls Tryz.prog 22 #[.int .i64 (k : Nat), .int .i64 (wi : Nat)] w fun e w' => e = .returned (.tuple #[.int .i64 ((k + wi - 1 : Nat) : Int), .int .i64 0]) ∧ w' = w := by
  have h1 := size_calls k hk0 hk1
  have h2 := size_calls wi hw0 hw1
  go_enter Tryz.func22, Tryz.ntmps22
  go_wp2_with (first | (with_reducible refine (h1 _).mono ?_; rintro e w' ⟨rfl, rfl⟩) | (with_reducible refine (h2 _).mono ?_; rintro e w' ⟨rfl, rfl⟩))
  go_ret2
  rw [show ((k + wi - 1 : Nat) : Int) = (k : Int) + (wi : Int) - 1 from by omega]
  exact ⟨rfl, rfl⟩

/-- are the texts right -/
def rightT (T : List Tx) : Bool := if 64 < T.length then false else rightOk none T
theorem rightT_valid {T : List Tx} (h : rightT T = true) : ∀ t, t ∈ T → validT t = true := by
  unfold rightT at h
  by_cases hl : 64 < T.length
  · rw [if_pos hl] at h; cases h
  · rw [if_neg hl] at h; exact rightOk_valid T none h

set_option maxHeartbeats 8000000 in
set_option maxRecDepth 100000 in
theorem find_calls (T : List Tx) (A : Option Addr) (c : Nat) (w : World) (hM : MaxAt w) (hC : Kd.C kTx w A T.length T) (hS : ∀ t, t ∈ T → TxSmall t) (hT : T.length ≤ 200)
    (k wi : Nat) (hk0 : 1 ≤ k) (hk1 : k ≤ 1024) (hw0 : 1 ≤ wi) (hw1 : wi ≤ 1024) :
    Calls Tryz.prog 6 #[.slice A T.length c, .int .i64 (k : Nat), .int .i64 (wi : Nat)] w fun e w' =>
      if rightT T = true then CnPost w T k wi e w' else e = .returned (.tuple #[.slice none 0 0, .int .i64 1]) ∧ Below w.heap.size w w' := by
  have HR := Aside0.mk (right_calls T A c w hM hC (by omega) hS)
  have HM := Aside0.mk hM
  have HC := Aside0.mk hC
  have HS := Aside0.mk hS
  clear hM hC hS
  change Aside0 (Calls Tryz.prog 21 #[.slice A T.length c] w fun e w' => e = .returned (.bool (rightT T)) ∧ Below w.heap.size w w') at HR
  have HG := Aside0.mk (guarantee_calls k wi hk0 hk1 hw0 hw1)
  cases hr : rightT T with
  | false =>
    rw [hr] at HR
    simp only [Bool.false_eq_true, if_false]
    clear hr
    go_enter Tryz.func6, Tryz.ntmps6
    go_wp2_with fail
    (with_reducible refine (HR.out).mono ?_)
    rintro e w' ⟨rfl, hb⟩
    have HB := Aside0.mk hb
    clear hb
    go_wp2_with fail
    go_ret2
    exact ⟨rfl, HB.out⟩
  | true =>
    have HV := Aside0.mk (rightT_valid hr)
    rw [hr] at HR
    simp only [if_true]
    clear hr
    go_enter Tryz.func6, Tryz.ntmps6
    go_wp2_with fail
    (with_reducible refine (HR.out).mono ?_)
    rintro e w1 ⟨rfl, hb⟩
    have HB := Aside0.mk hb
    clear hb
    go_wp2_with fail
    (with_reducible refine (HG.out _).mono ?_)
    rintro e w' ⟨rfl, rfl⟩
    go_wp2_with fail
    (with_reducible refine (clones_calls T A c _ (HM.out.of HB.out) (Kd.C_below HC.out HB.out) HS.out HV.out hT k wi hk0 hk1 hw0 hw1).mono ?_)
    rintro e w2 ⟨hb2, L, hL, hcase⟩
    have HB2 : Aside0 (Below w.heap.size w w2) := ⟨HB.out.trans (hb2.mono HB.out.size)⟩
    have HL := Aside0.mk hL
    clear hb2 hL
    rcases hcase with ⟨hl, A1, c1, rfl, hc1, hC1⟩ | ⟨hl, rfl⟩
    · have HC1 := Aside0.mk hC1
      clear hC1
      go_wp2_with fail
      go_ret2
      exact ⟨HB2.out, L, HL.out, .inl ⟨hl, A1, c1, rfl, hc1, HC1.out⟩⟩
    · go_wp2_with fail
      go_ret2
      exact ⟨HB2.out, L, HL.out, .inr ⟨hl, rfl⟩⟩
end Go.Proofs.YtbakoigejihnaaaGreatDoor.Wp
end
section
set_option linter.unusedSectionVars false
set_option linter.unusedSimpArgs false
set_option linter.unusedVariables false
namespace Go.Proofs.YtbakoigejihnaaaGreatDoor.Wp
open Go.RowKit Go.Proofs.YtbakoigejihnaaaGreatDoorW.PrintWords Go.Proofs.YtbakoigejihnaaaGreatDoorW.PrintLast Go.Proofs.YtbakoigejihnaaaGreatDoorW.PrintMore
abbrev SCl := Ref.S37
abbrev kCl := Ref.k37

def clEq (x y : SCl) : Bool := x.f0 == y.f0 && (x.f1 == y.f1 && (x.f2 == y.f2 && (x.f3 == y.f3 && (x.f4 == y.f4))))
theorem clEq_iff (x y : SCl) : clEq x y = true ↔ x = y := by
  obtain ⟨a, b, c, d, e⟩ := x
  obtain ⟨a', b', c', d', e'⟩ := y
  simp [clEq]
def clsEq : List SCl → List SCl → Bool
  | [], [] => true
  | x :: xs, y :: ys => clEq x y && clsEq xs ys
  | _, _ => false
theorem clsEq_iff : ∀ xs ys : List SCl, clsEq xs ys = true ↔ xs = ys
  | [], [] => by simp [clsEq]
  | [], y :: ys => by simp [clsEq]
  | x :: xs, [] => by simp [clsEq]
  | x :: xs, y :: ys => by simp [clsEq, clEq_iff, clsEq_iff xs ys]
theorem rd_cl {l : List SCl} {i : Nat} (hi : i < l.length) : Ref.rd_T37 l (i : Int) = l[i] := by
  unfold Ref.rd_T37
  rw [Int.toNat_natCast, List.getD_eq_getElem?_getD, List.getElem?_eq_getElem hi]; rfl

set_option maxHeartbeats 4000000 in
set_option maxRecDepth 100000 in
theorem equal_calls (w : World) (A1 A2 : Option Addr) (c1 c2 : Nat) (xs ys : List SCl) (h1 : Kd.C kCl w A1 xs.length xs) (h2 : Kd.C kCl w A2 ys.length ys) (hn : xs.length ≤ 1000000) (hm : ys.length ≤ 1000000) :
    Calls Tryz.prog 13 #[.slice A1 xs.length c1, .slice A2 ys.length c2] w fun e w' => e = .returned (.bool (clsEq xs ys)) ∧ Drawn0 w w' := by
  have HC1 := Aside0.mk h1
  have HC2 := Aside0.mk h2
  clear h1 h2
  by_cases hl : xs.length = ys.length
  · have HL := Aside0.mk hl
    have b0 : ((xs.length : Int) != (ys.length : Int)) = false := by rw [bne_eq_false_iff_eq, hl]
    have b1 : ((xs.length : Int) == (ys.length : Int)) = true := by rw [beq_iff_eq, hl]
    clear hl
    go_enter Tryz.func13, Tryz.ntmps13
    go_wp2_with fail
    go_loopg [13] xs.length (fun kq v13 wr => ∃ k q : Nat, v13 = .int .i64 k ∧ wr = w.drewN q ∧ Aside0 (k + kq = xs.length) ∧ Aside0 (clsEq xs ys = clsEq (xs.drop k) (ys.drop k)))
    case atStart => exact ⟨0, 0, rfl, rfl, ⟨by omega⟩, ⟨rfl⟩⟩
    case round =>
      obtain ⟨k, q, rfl, rfl, HK, HE⟩ := hrel
      by_cases hk : k < xs.length
      · have hkb : decide ((k : Int) < (xs.length : Int)) = true := by simpa using hk
        have hk2 : k < ys.length := by rw [← HL.out]; exact hk
        obtain ⟨ad1, e1, p0, p1, p2, p3, p4⟩ := Ref.at_T37 HC1.out (k : Int) (by omega) (by omega)
        obtain ⟨ad2, e2, q0, q1, q2, q3, q4⟩ := Ref.at_T37 HC2.out (k : Int) (by omega) (by omega)
        subst e1 e2
        rw [rd_cl hk, Int.toNat_natCast] at p0 p1 p2 p3 p4
        rw [rd_cl hk2, Int.toNat_natCast] at q0 q1 q2 q3 q4
        have HE' : Aside0 (clsEq xs ys = (clEq xs[k] ys[k] && clsEq (xs.drop (k + 1)) (ys.drop (k + 1)))) := ⟨by
          rw [HE.out, List.drop_eq_getElem_cons hk, List.drop_eq_getElem_cons hk2]; rfl⟩
        generalize xs[k] = x at p0 p1 p2 p3 p4 HE'
        generalize ys[k] = y at q0 q1 q2 q3 q4 HE'
        have he : ∀ d W, (Op.equalIn (d + 2) 37 (.agg #[.int .i64 x.f0, .int .i64 x.f1, .int .i64 x.f2, .int .i64 x.f3, .int .i64 x.f4]) (.agg #[.int .i64 y.f0, .int .i64 y.f1, .int .i64 y.f2, .int .i64 y.f3, .int .i64 y.f4])).run Tryz.prog W = .ok (clEq x y) W := fun d W => eqC d W _ _ _ _ _ _ _ _ _ _
        generalize clEq x y = b at he HE'
        have hkb2 : decide ((k : Int) < (ys.length : Int)) = true := by simpa using hk2
        clear HE
        cases b with
        | true =>
          go_wp2_with fail
          go_quiet (fail)
          go_wp2_with fail
          go_roundg (gk - 1)
          case measure => have := HK.out; omega
          case rel => exact ⟨k + 1, _, by go_num, rfl, ⟨by have := HK.out; omega⟩, ⟨by rw [HE'.out, Bool.true_and]⟩⟩
        | false =>
          go_wp2_with fail
          go_quiet (fail)
          go_wp2_with fail
          go_ret
          exact ⟨by rw [HE'.out]; rfl, ⟨_, World.drewN_drewN _ _ _⟩⟩
      · have hkb : decide ((k : Int) < (xs.length : Int)) = false := by simpa using hk
        go_wp2_with fail
        go_ret
        refine ⟨?_, ⟨_, rfl⟩⟩
        rw [HE.out, List.drop_of_length_le (by omega), List.drop_of_length_le (by have := HL.out; omega)]; rfl
  · have b0 : ((xs.length : Int) != (ys.length : Int)) = true := by rw [bne_iff_ne]; omega
    have b1 : ((xs.length : Int) == (ys.length : Int)) = false := by rw [beq_eq_false_iff_ne]; omega
    have hr : clsEq xs ys = false := by
      rw [Bool.eq_false_iff, Ne, clsEq_iff]; rintro rfl; exact hl rfl
    rw [hr]
    clear hl hr
    go_enter Tryz.func13, Tryz.ntmps13
    go_wp2_with fail
    go_ret
    exact ⟨rfl, ⟨0, rfl⟩⟩
end Go.Proofs.YtbakoigejihnaaaGreatDoor.Wp
end
section
set_option linter.unusedSectionVars false
set_option linter.unusedSimpArgs false
set_option linter.unusedVariables false
namespace Go.Proofs.YtbakoigejihnaaaGreatDoor.Wp
open Go.RowKit Go.AutoMap Go.Proofs.YtbakoigejihnaaaGreatDoorW.PrintWords Go.Proofs.YtbakoigejihnaaaGreatDoorW.PrintLast Go.Proofs.YtbakoigejihnaaaGreatDoorW.PrintMore
open Sam (Auto bestS)
open Ref (Lx txt)
open Wk (Built kW)
open Kl (Cl)

def two (x : Lx) : ByteArray × Int := (x.f0, x.f1)
theorem two_txt (l : List Lx) : (l.map two).map (·.1) = txt l := by simp [txt, two]
theorem C_two {w : World} {A : Option Addr} {n : Nat} {l : List Lx} (h : Kd.C kLx w A n l) : Kd.C kW w A n (l.map two) := by
  refine ⟨by rw [List.length_map]; exact h.1, h.2.1, fun hn => ?_⟩
  obtain ⟨ad, e, hc⟩ := h.2.2 hn
  refine ⟨ad, e, fun j p hj => ?_⟩
  rw [List.getElem?_map] at hj
  cases hl : l[j]? with
  | none => rw [hl] at hj; simp at hj
  | some x =>
    rw [hl] at hj
    simp only [Option.map_some, Option.some.injEq] at hj
    subst hj
    exact hc j x hl

section
variable {w : World} {base ba : Nat} {A : Auto ByteArray} {W : List ByteArray} (A1 : Option Addr) (c1 : Nat) (l : List Lx) (hT : Kd.C kLx w A1 l.length l)
include hT
theorem build (hlen : l.length ≤ 8192) :
    Calls Tryz.prog 11 #[.slice A1 l.length c1] w fun e w' => ∃ ba A, e = .returned (.tuple #[.pointer (some ⟨ba, 0, none⟩), .int .i64 0]) ∧ AutoMem 66 69 w' w.heap.size ba A ∧ Built (txt l) A ∧ Below w.heap.size w w' := by
  have := Wk.build_calls w A1 c1 (l.map two) (by rw [List.length_map]; exact C_two hT) (by rw [List.length_map]; exact hlen)
  rwa [List.length_map, two_txt] at this
theorem longest_calls (hlen : l.length ≤ 100000) (hm : AutoMem 66 69 w base ba A) (hb : Built W A) (hW : W.length ≤ 8192) :
    Calls Tryz.prog 12 #[.pointer (some ⟨ba, 0, none⟩), .slice A1 l.length c1] w fun e w' => e = .returned (.tuple #[.int .i64 (bestS W (txt l)).2.1, .int .i64 (bestS W (txt l)).2.2, .int .i64 ((bestS W (txt l)).1 : Nat)]) ∧ Below w.heap.size w w' := by
  have := Wk.q_longest A1 c1 (l.map two) (by rw [List.length_map]; exact C_two hT) (by rw [List.length_map]; exact hlen) hm hb hW
  rwa [List.length_map, two_txt] at this
end

end Go.Proofs.YtbakoigejihnaaaGreatDoor.Wp
end
