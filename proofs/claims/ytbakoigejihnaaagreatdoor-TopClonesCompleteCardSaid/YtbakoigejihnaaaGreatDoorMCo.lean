/- A corpus of at most one text: made, checked, added to, and asked which texts are near, walked. Conditions: none. -/
import Derived.Test.YtbakoigejihnaaaGreatDoorMPo
import Derived.Test.YtbakoigejihnaaaGreatDoorMRG
section
set_option linter.unusedSectionVars false
set_option linter.unusedSimpArgs false
set_option linter.unusedVariables false
namespace Go.Proofs.YtbakoigejihnaaaGreatDoor.Ps
open Go.RowKit Go.Proofs.YtbakoigejihnaaaGreatDoorW.PrintWords Go.Proofs.YtbakoigejihnaaaGreatDoorW.PrintLast Go.Proofs.YtbakoigejihnaaaGreatDoorW.PrintMore
open Ref (Lx txt txt_length)
open Wp (Tx TxSmall validT kTx kLx kPr TPr prS Yes MaxAt at_tx)

abbrev TCo : TypeId := 79
theorem C_set {α : Type} {d : Kd α} {w : World} {A : Option Addr} {n : Nat} {xs : List α} (h : Kd.C d w A n xs) {N g : Nat} (hA : ∀ ad, A = some ad → N ≤ ad.block) (hg : g < N) (i : Nat) (u : Value) (hK : ∀ x cs, d.K w x cs → d.K (w.setCell ⟨g, i, none⟩ u) x cs) : Kd.C d (w.setCell ⟨g, i, none⟩ u) A n xs := by
  obtain ⟨h1, h2, h3⟩ := h
  refine ⟨h1, h2, fun hp => ?_⟩
  obtain ⟨ad, e, hc⟩ := h3 hp
  refine ⟨ad, e, fun j p hj => ?_⟩
  obtain ⟨cs, hl, hk, hcc⟩ := hc j p hj
  refine ⟨cs, hl, hK _ _ hk, fun q v hv => ?_⟩
  have hb : (ad.add (j * d.sz + q)).block = ad.block := by simp [Addr.add]; split <;> rfl
  exact (World.cell?_of_block (Below.heap_setCell w ⟨g, i, none⟩ u _ (by rw [hb]; have := hA ad e; show ad.block ≠ g; omega))).trans (hcc q v hv)
theorem kTr_K (w w' : World) (x : Raw) (cs : List Value) (h : kTr.K w x cs) : kTr.K w' x cs := by
  rw [kTr_open h]; exact ⟨[.string x.1], [.slice x.2.1 x.2.2.1 x.2.2.2], rfl, rfl, rfl⟩
/-- a corpus of one text in memory: all of it at or above a block -/
structure CoMem (N : Nat) (w : World) (A2 A3 : Option Addr) (t : Tx) (P : List SP) (A1 : Option Addr) (c1 : Nat) : Prop where
  cap : t.f1.length ≤ c1
  tx : Kd.C kTr w A2 1 [(t.f0, A1, t.f1.length, c1)]
  words : Kd.C kLx w A1 t.f1.length t.f1
  posts : Kd.C kP w A3 P.length P
  b1 : ∀ ad, A1 = some ad → N ≤ ad.block
  b2 : ∀ ad, A2 = some ad → N ≤ ad.block
  b3 : ∀ ad, A3 = some ad → N ≤ ad.block
theorem CoMem.set {N : Nat} {w : World} {A2 A3 : Option Addr} {t : Tx} {P : List SP} {A1 : Option Addr} {c1 : Nat} (h : CoMem N w A2 A3 t P A1 c1) {g : Nat} (hg : g < N) (i : Nat) (u : Value) : CoMem N (w.setCell ⟨g, i, none⟩ u) A2 A3 t P A1 c1 :=
  ⟨h.cap, C_set h.tx h.b2 hg i u (fun x cs hk => kTr_K _ _ x cs hk), C_set h.words h.b1 hg i u (fun x cs hk => by rw [Ref.k35_open hk]; exact Ref.k35_mk _ x), C_set h.posts h.b3 hg i u (fun x cs hk => by rw [Ref.k134_open hk]; exact Ref.k134_mk _ x), h.b1, h.b2, h.b3⟩
theorem CoMem.below {N : Nat} {w w' : World} {A2 A3 : Option Addr} {t : Tx} {P : List SP} {A1 : Option Addr} {c1 : Nat} (h : CoMem N w A2 A3 t P A1 c1) (hb : Below w.heap.size w w') : CoMem N w' A2 A3 t P A1 c1 :=
  ⟨h.cap, Kd.C_below h.tx hb, Kd.C_below h.words hb, Kd.C_below h.posts hb, h.b1, h.b2, h.b3⟩
theorem CoMem.lower {N N' : Nat} {w : World} {A2 A3 : Option Addr} {t : Tx} {P : List SP} {A1 : Option Addr} {c1 : Nat} (h : CoMem N w A2 A3 t P A1 c1) (hN : N' ≤ N) : CoMem N' w A2 A3 t P A1 c1 :=
  ⟨h.cap, h.tx, h.words, h.posts, fun a e => Nat.le_trans hN (h.b1 a e), fun a e => Nat.le_trans hN (h.b2 a e), fun a e => Nat.le_trans hN (h.b3 a e)⟩
theorem CoMem.texts {N : Nat} {w : World} {A2 A3 : Option Addr} {t : Tx} {P : List SP} {A1 : Option Addr} {c1 : Nat} (h : CoMem N w A2 A3 t P A1 c1) : Kd.C kTx w A2 1 [t] := tx_one h.tx h.cap h.words
set_option maxHeartbeats 8000000 in
set_option maxRecDepth 100000 in
theorem with_one (t : Tx) (A : Option Addr) (c : Nat) (w : World) (hM : MaxAt w) (hC : Kd.C kTx w A 1 [t]) (hS : TxSmall t) (hv : validT t = true)
    (k wi : Nat) (hk0 : 1 ≤ k) (hk1 : k ≤ 1024) (hw0 : 1 ≤ wi) (hw1 : wi ≤ 1024) (hP : (prS k wi (txt t.f1)).length ≤ 100000) (v2 v3 : Value) (hv2 : v2 = .slice none 0 0) (hv3 : v3 = .slice none 0 0) :
    Calls Tryz.prog 67 #[.agg #[.int .i64 (k : Nat), .int .i64 (wi : Nat), v2, v3], .slice A 1 c] w fun e w' => ∃ A2 c2 A3 c3, e = .returned (.agg #[.int .i64 (k : Nat), .int .i64 (wi : Nat), .slice A2 1 c2, .slice A3 (sortP (postsT k wi 0 t)).length c3]) ∧ 1 ≤ c2 ∧ (sortP (postsT k wi 0 t)).length ≤ c3 ∧
      (∃ A1 c1, CoMem w.heap.size w' A2 A3 t (sortP (postsT k wi 0 t)) A1 c1) ∧ Below w.heap.size w w' := by
  subst hv2 hv3
  have HM := Aside0.mk hM
  have HC := Aside0.mk hC
  have HS := Aside0.mk hS
  have HV := Aside0.mk hv
  have HP := Aside0.mk hP
  clear hM hC hS hv hP
  go_enter Tryz.func67, Tryz.ntmps67
  go_wp2_with fail
  obtain ⟨W1, hW1⟩ : ∃ W1, W1 = ((w.alloc (.cells #[.int .i64 (k : Nat), .int .i64 (wi : Nat), .slice none 0 0, .slice none 0 0] TCo)).alloc (.cells #[.int .i64 0, .int .i64 0, .slice none 0 0, .slice none 0 0] TCo)) := ⟨_, rfl⟩
  rw [← hW1]
  have hh1 : W1.heap[w.heap.size]? = some (.cells #[.int .i64 (k : Nat), .int .i64 (wi : Nat), .slice none 0 0, .slice none 0 0] TCo (0, 0)) := by
    rw [hW1]
    exact (Below.heap_alloc _ _ _ (by simp)).trans (heap_alloc_new _ _)
  have hh2 : W1.heap[w.heap.size + 1]? = some (.cells #[.int .i64 0, .int .i64 0, .slice none 0 0, .slice none 0 0] TCo (0, 0)) := by
    rw [hW1, show w.heap.size + 1 = (w.alloc (.cells #[.int .i64 (k : Nat), .int .i64 (wi : Nat), .slice none 0 0, .slice none 0 0] TCo)).heap.size by simp]
    exact heap_alloc_new _ _
  have hB1 : Below w.heap.size w W1 := by rw [hW1]; exact ((Below.refl _ _).alloc (Nat.le_refl _) _).alloc (by simp) _
  have HH := Aside0.mk (And.intro hh1 hh2)
  have HB1 := Aside0.mk hB1
  have HLt : Aside0 (w.heap.size + 1 < W1.heap.size) := ⟨blk_lt hh2⟩
  clear hW1 hh1 hh2 hB1
  go_loopg [5, 10] 1 (fun gg v5 v10 wr => ∃ i : Nat, v10 = .int .i64 i ∧ Aside0 (i + gg = 1) ∧ Aside0 (Below W1.heap.size W1 wr) ∧ Aside0 (i = 0 → v5 = .slice none 0 0) ∧
      Aside0 (i = 1 → ∃ A1 c1, Kd.R kTr TTx wr W1.heap.size Yes v5 [(t.f0, A1, t.f1.length, c1)] ∧ t.f1.length ≤ c1 ∧ Kd.C kLx wr A1 t.f1.length t.f1 ∧ ∀ ad, A1 = some ad → W1.heap.size ≤ ad.block))
  case atStart => exact ⟨0, rfl, ⟨rfl⟩, ⟨Below.refl _ _⟩, ⟨fun _ => rfl⟩, ⟨fun h => by cases h⟩⟩
  case round =>
    obtain ⟨i, rfl, HK, HB, H0, H1⟩ := hrel
    have hi1 : i ≤ 1 := by have := HK.out; omega
    have hii : i = 0 ∨ i = 1 := by omega
    have HBw : Aside0 (Below w.heap.size w wr) := ⟨HB1.out.trans (HB.out.mono HB1.out.size)⟩
    rcases hii with rfl | rfl
    · obtain ⟨ad, A1, c1, eA, cw0, cw1, hc1, hC1⟩ := at_tx (T := [t]) (Kd.C_below HC.out HBw.out) (i := 0) (by simp)
      subst eA
      simp only [List.getElem_cons_zero, Nat.zero_mul] at cw0 cw1 hc1 hC1
      have ea : ad.add 0 = ad := by simp [Addr.add]
      rw [ea] at cw0 cw1
      have e5 := H0.out rfl
      subst e5
      have HC1 := Aside0.mk hC1
      clear hC1 hc1 H0 H1
      go_wp2_with fail
      obtain ⟨W4, hW4⟩ : ∃ W4, W4 = wr.alloc (.cells #[.string t.f0, .slice A1 t.f1.length c1] TTx) := ⟨_, rfl⟩
      rw [← hW4]
      have hnew := heap_alloc_new wr (.cells #[.string t.f0, .slice A1 t.f1.length c1] TTx)
      rw [← hW4] at hnew
      have hb4 : Below wr.heap.size wr W4 := by rw [hW4]; exact (Below.refl _ _).alloc (Nat.le_refl _) _
      have x0 : W4.cell? ⟨wr.heap.size, 0, none⟩ = some (.string t.f0) := blk_cell hnew 0
      have x1 : W4.cell? ⟨wr.heap.size, 1, none⟩ = some (.slice A1 t.f1.length c1) := blk_cell hnew 1
      have HBl : Aside0 (wr.heap.size < W4.heap.size) := ⟨blk_lt hnew⟩
      have HB4 : Aside0 (Below W1.heap.size W1 W4) := ⟨HB.out.trans (hb4.mono HB.out.size)⟩
      have HCw := Aside0.mk (Kd.C_below HC1.out hb4)
      have hlt := HS.out.2.1
      clear hb4 hW4 hnew cw0 cw1 HC1 HBw HB
      generalize wr.heap.size = b7 at x0 x1 HBl ⊢
      clear wr
      have HCl := Aside0.mk (fun (W : World) (hC : Kd.C kLx W A1 t.f1.length t.f1) => clone_lx t.f1 A1 c1 W hC hlt)
      go_region_held3 (fun w' => w'.cell? ⟨b7, 0, none⟩ = some (.string t.f0) ∧ w'.cell? ⟨b7, 1, none⟩ = some (.slice A1 t.f1.length c1)) (first | go_keep | exact y01 | exact z01)
        (first
          | (go_at_call 66; refine (HCl.out _ (by exact HCw.out)).mono ?_; rintro e w' ⟨v, rfl, hr, hb⟩
             obtain ⟨Av, cv, rfl, hcv, hCv⟩ := Kd.R_reads hr
             have y01 : w'.cell? ⟨b7, 0, none⟩ = some (.string t.f0) ∧ w'.cell? ⟨b7, 1, none⟩ = some (.slice A1 t.f1.length c1) := ⟨(hb.cell HBl.out).trans x0, (hb.cell HBl.out).trans x1⟩
             have HR := Aside0.mk (And.intro hcv (And.intro hCv hb))
             have HRb := Aside0.mk (Kd.R_base hr))
          | (refine Kd.R_append_step kTr (w0 := W1) (W := w') W1.heap.size (by rfl) (.tmp 14) (.tmp 21) 32 TTx (.agg #[.string ⟨#[]⟩, .slice none 0 0]) 40 (by rfl) Tryz.underlying32 infoTx (by rfl) (by decide) (by omega)
               (.slice none 0 0) [] (t.f0, Av, t.f1.length, cv) [.string t.f0, .slice Av t.f1.length cv] Yes (fun _ => False) (by rfl) (by rfl) (kTr_mkM _ _ _ _) (fun _ hk => hk.elim) (fun _ _ => trivial) (Kd.R_nil _ _ _ _ _) (HB4.out.trans (((Below.refl _ _).drew.trans (HR.out.2.2)).mono HB4.out.size)) (Nat.le_trans HB4.out.size HR.out.2.2.size) (by simp) ?_
             intro v1 w1 ho hb1 hg hat
             have z01 : w1.cell? ⟨b7, 0, none⟩ = some (.string t.f0) ∧ w1.cell? ⟨b7, 1, none⟩ = some (.slice A1 t.f1.length c1) := ⟨hg.cell y01.1 (fun e => by cases e), hg.cell y01.2 (fun e => by cases e)⟩))
      all_goals
        have HF := Aside0.mk (And.intro ho (And.intro hb1 (And.intro HR.out.1 (Kd.C_below HR.out.2.1 ((Below.refl w'.heap.size w').grown hg (Nat.le_refl _) (by rintro q hq; cases hq))))))
        clear ho hb1 hg hat y01 z01 HR hr hb hCv hcv
        go_wp2_with fail
        go_roundg 0
        case measure => have := HK.out; omega
        case rel => exact ⟨1, by rfl, ⟨rfl⟩, ⟨HF.out.2.1⟩, ⟨fun h => by cases h⟩, ⟨fun _ => ⟨Av, cv, HF.out.1, HF.out.2.2.1, HF.out.2.2.2, fun ad e => Nat.le_trans HB4.out.size (HRb.out ad.block (by rw [e]; rfl))⟩⟩⟩
    · obtain ⟨A1, c1, hR, hc1, hC1, hA1⟩ := H1.out rfl
      have hA2 := Kd.R_base hR
      obtain ⟨A2, c2, hv5, hc2, hC2⟩ := Kd.R_reads hR
      simp only [List.length_cons, List.length_nil, Nat.reduceAdd] at hv5 hc2 hC2
      subst hv5
      have HMem := Aside0.mk (And.intro hc1 (And.intro hC2 (And.intro hC1 (And.intro hA1 hA2))))
      clear hA1 hA2
      have HTx := Aside0.mk (tx_one hC2 hc1 hC1)
      have HC2 := Aside0.mk hc2
      have hPo : ∀ W : World, MaxAt W → Kd.C kTx W A2 1 [t] → Calls Tryz.prog 94 #[.slice A2 1 c2, .int .i64 (k : Nat), .int .i64 (wi : Nat)] W fun e w' => ∃ A3 c3, e = .returned (.slice A3 (sortP (postsT k wi 0 t)).length c3) ∧ (sortP (postsT k wi 0 t)).length ≤ c3 ∧
          Kd.C kP w' A3 (sortP (postsT k wi 0 t)).length (sortP (postsT k wi 0 t)) ∧ Below W.heap.size W w' ∧ (∀ ad, A3 = some ad → W.heap.size ≤ ad.block) := fun W hM hC =>
        posts_calls [t] A2 c2 W hM hC (by intro x hx; rw [List.mem_singleton.1 hx]; exact HS.out) (by intro x hx; rw [List.mem_singleton.1 hx]; exact HV.out) (by simp) k wi hk0 hk1 hw0 hw1 (by
          show ([] ++ postsT k wi 0 t).length ≤ _
          rw [List.nil_append]; unfold postsT; rw [List.length_map]; exact HP.out) (by intro x hx; rw [List.mem_singleton.1 hx]; exact HP.out)
      have HPo := Aside0.mk hPo
      have hh1 : wr.heap[w.heap.size]? = some (.cells #[.int .i64 (k : Nat), .int .i64 (wi : Nat), .slice none 0 0, .slice none 0 0] TCo (0, 0)) := (HB.out.block _ (blk_lt HH.out.1)).trans HH.out.1
      have hh2 : wr.heap[w.heap.size + 1]? = some (.cells #[.int .i64 0, .int .i64 0, .slice none 0 0, .slice none 0 0] TCo (0, 0)) := (HB.out.block _ (blk_lt HH.out.2)).trans HH.out.2
      have a0 : wr.cell? ⟨w.heap.size, 0, none⟩ = some (.int .i64 (k : Nat)) := blk_cell hh1 0
      have a1 : wr.cell? ⟨w.heap.size, 1, none⟩ = some (.int .i64 (wi : Nat)) := blk_cell hh1 1
      have HH2 := Aside0.mk (And.intro hh1 hh2)
      clear hR hc1 hC1 hc2 hC2 hPo hh1 hh2 H0 H1 HH HC
      have hne : w.heap.size + 1 ≠ w.heap.size := by omega
      generalize hb1 : w.heap.size + 1 = b1 at HH2 hne ⊢
      have HB1' := Aside0.mk hb1
      clear hb1
      go_wp2_with fail
      go_region_held3 (fun w' => w'.cell? ⟨w.heap.size, 0, none⟩ = some (.int .i64 (k : Nat)) ∧ w'.cell? ⟨w.heap.size, 1, none⟩ = some (.int .i64 (wi : Nat))) (first | go_keep | exact y01)
        (first
          | (go_at_call 94; refine (HPo.out _ ((HM.out.of HBw.out).of ((Below.refl _ _).drew)) (Kd.C_below HTx.out ((Below.refl _ _).drew))).mono ?_; rintro e w' ⟨A3, c3, rfl, h3, h4, h5, h6⟩
             have y01 : w'.cell? ⟨w.heap.size, 0, none⟩ = some (.int .i64 (k : Nat)) ∧ w'.cell? ⟨w.heap.size, 1, none⟩ = some (.int .i64 (wi : Nat)) := ⟨(h5.cell (blk_lt HH2.out.1)).trans a0, (h5.cell (blk_lt HH2.out.1)).trans a1⟩
             have HQ := Aside0.mk (And.intro h3 (And.intro h4 (And.intro h5 h6)))
             have hb2 : w'.heap[b1]? = some (.cells #[.int .i64 0, .int .i64 0, .slice none 0 0, .slice none 0 0] TCo (0, 0)) := (h5.block _ (blk_lt HH2.out.2)).trans HH2.out.2
             have f0 := blk_frozen hb2 0
             have f1 := blk_frozen hb2 1
             have f2 := blk_frozen hb2 2
             have f3 := blk_frozen hb2 3
             have d0 := blk_cell hb2 0
             have d1 := blk_cell hb2 1
             have d2 := blk_cell hb2 2
             have d3 := blk_cell hb2 3))
      all_goals
        have hf := blk_set (blk_set (blk_set (blk_set hb2 0 (.int .i64 (k : Nat))) 1 (.int .i64 (wi : Nat))) 2 (.slice A2 1 c2)) 3 (.slice A3 (sortP (postsT k wi 0 t)).length c3)
        have r0 := blk_cell hf 0
        have r1 := blk_cell hf 1
        have r2 := blk_cell hf 2
        have r3 := blk_cell hf 3
        have hbase : w.heap.size ≤ b1 := by rw [← HB1'.out]; omega
        have hB2 : Below w.heap.size w w' := HBw.out.trans (((Below.refl _ _).drew.trans HQ.out.2.2.1).mono HBw.out.size)
        have hne2 : ∀ k, k < wr.heap.size → True := fun _ _ => trivial
        have HFin := Aside0.mk (And.intro hf hB2)
        clear hf y01 a0 a1 hB2 hb2 f0 f1 f2 f3 d0 d1 d2 d3 h3 h4 h5 h6
        go_wp2_with fail
        refine bodyPost_ret (v := .agg #[.int .i64 (k : Nat), .int .i64 (wi : Nat), .slice A2 1 c2, .slice A3 (sortP (postsT k wi 0 t)).length c3]) (by simp [results, Tryz.f67, go_sem, r0, r1, r2, r3]) rfl ?_
        have hW1 : W1.heap.size ≤ wr.heap.size := HB.out.size
        have hb1lt : b1 < W1.heap.size := by
          have := HB1'.out
          have := HLt.out
          omega
        have hbd : Below wr.heap.size wr w' := (Below.refl _ _).drew.trans HQ.out.2.2.1
        obtain ⟨m1, m2, m3, m4, m5⟩ := HMem.out
        have hco : CoMem W1.heap.size w' A2 A3 t (sortP (postsT k wi 0 t)) A1 c1 := ⟨m1, Kd.C_below m2 hbd, Kd.C_below m3 hbd, HQ.out.2.1, m4, fun ad e => m5 ad.block (by rw [e]; rfl), fun ad e => Nat.le_trans hW1 (HQ.out.2.2.2 ad e)⟩
        refine ⟨A2, c2, A3, c3, rfl, HC2.out, HQ.out.1, ⟨A1, c1, ((((hco.set hb1lt 0 _).set hb1lt 1 _).set hb1lt 2 _).set hb1lt 3 _).lower HB1.out.size⟩, ?_⟩
        · exact (((HFin.out.2.setCell hbase _).setCell hbase _).setCell hbase _).setCell hbase _
end Go.Proofs.YtbakoigejihnaaaGreatDoor.Ps
end
section
set_option linter.unusedSectionVars false
set_option linter.unusedSimpArgs false
set_option linter.unusedVariables false
namespace Go.Proofs.YtbakoigejihnaaaGreatDoor.Ps
open Go.RowKit Go.Proofs.YtbakoigejihnaaaGreatDoorW.PrintWords Go.Proofs.YtbakoigejihnaaaGreatDoorW.PrintLast Go.Proofs.YtbakoigejihnaaaGreatDoorW.PrintMore
open Ref (Lx txt txt_length)
open Wp (Tx TxSmall validT kTx kLx kPr TPr prS Yes MaxAt at_tx valid_calls)

theorem size_ev (n : Nat) (h0 : 1 ≤ n) (h1 : n ≤ 1024) : Ref.corpus_size.f (n : Int) = some true := by
  unfold Ref.corpus_size.f
  rw [if_pos (by omega)]
  congr 1
  rw [decide_eq_true_eq]; omega
theorem size_calls (n : Nat) (h0 : 1 ≤ n) (h1 : n ≤ 1024) (w : World) : Calls Tryz.prog 63 #[.int .i64 (n : Nat)] w fun e w' => e = .returned (.bool true) ∧ Drawn0 w w' :=
  Ref.corpus_size.calls (n : Int) true w (size_ev n h0 h1)

set_option maxHeartbeats 8000000 in
set_option maxRecDepth 100000 in
theorem check_calls (T : List Tx) (hT : T.length ≤ 1) (P : List SP) (A2 A3 : Option Addr) (c2 c3 : Nat) (w : World) (hM : MaxAt w) (hC : Kd.C kTx w A2 T.length T) (hS : ∀ t, t ∈ T → TxSmall t) (hv : ∀ t, t ∈ T → validT t = true)
    (k wi : Nat) (hk0 : 1 ≤ k) (hk1 : k ≤ 1024) (hw0 : 1 ≤ wi) (hw1 : wi ≤ 1024) (hPl : (postsU T k wi T.length).length ≤ 100000) (hPr : ∀ t, t ∈ T → (prS k wi (txt t.f1)).length ≤ 100000)
    (hP : P = sortP (postsU T k wi T.length)) (hCP : Kd.C kP w A3 P.length P) :
    Calls Tryz.prog 64 #[.agg #[.int .i64 (k : Nat), .int .i64 (wi : Nat), .slice A2 T.length c2, .slice A3 P.length c3]] w fun e w' => e = .returned (.int .i64 0) ∧ Below w.heap.size w w' := by
  have HM := Aside0.mk hM
  have HC := Aside0.mk hC
  have HS := Aside0.mk hS
  have HV := Aside0.mk hv
  have HT := Aside0.mk hT
  have HCP := Aside0.mk hCP
  have HPo := Aside0.mk (fun (W : World) (hM : MaxAt W) (hC : Kd.C kTx W A2 T.length T) => posts_calls T A2 c2 W hM hC hS hv hT k wi hk0 hk1 hw0 hw1 hPl hPr)
  rw [← hP] at HPo
  have hPl2 : P.length ≤ 1000000 := by rw [hP, sortP_length]; omega
  have HPl := Aside0.mk hPl2
  have HSz1 := Aside0.mk (fun (W : World) => size_calls k hk0 hk1 W)
  have HSz2 := Aside0.mk (fun (W : World) => size_calls wi hw0 hw1 W)
  have b64 : decide ((64 : Int) < (T.length : Int)) = false := by simp; omega
  clear hM hC hS hv hCP hPl hPr hP hPl2
  go_enter Tryz.func64, Tryz.ntmps64
  go_wp2_with fail
  obtain ⟨W1, hW1⟩ : ∃ W1, W1 = w.alloc (.cells #[.int .i64 (k : Nat), .int .i64 (wi : Nat), .slice A2 T.length c2, .slice A3 P.length c3] TCo) := ⟨_, rfl⟩
  rw [← hW1]
  have hh1 : W1.heap[w.heap.size]? = some (.cells #[.int .i64 (k : Nat), .int .i64 (wi : Nat), .slice A2 T.length c2, .slice A3 P.length c3] TCo (0, 0)) := by rw [hW1]; exact heap_alloc_new _ _
  have hB1 : Below w.heap.size w W1 := by rw [hW1]; exact (Below.refl _ _).alloc (Nat.le_refl _) _
  have HH := Aside0.mk hh1
  have HB1 := Aside0.mk hB1
  clear hW1 hh1 hB1
  (with_reducible refine (HSz1.out _).mono ?_)
  rintro e w2 ⟨rfl, ⟨n2, rfl⟩⟩
  have k1 := blk_cell (blk_drewN HH.out n2) 1
  go_wp2_with fail
  (with_reducible refine (HSz2.out _).mono ?_)
  rintro e w3 ⟨rfl, ⟨n3, rfl⟩⟩
  clear k1 HSz1 HSz2
  have hW3 : Below W1.heap.size W1 ((W1.drewN n2).drewN n3) := pw_below_drewN (pw_below_drewN (Below.refl _ _) _) _
  generalize ((W1.drewN n2).drewN n3) = W3 at hW3 ⊢
  have HB3 := Aside0.mk hW3
  clear hW3
  have h3 := (HB3.out.block _ (blk_lt HH.out)).trans HH.out
  have k2 := blk_cell h3 2
  clear h3
  go_wp2_with fail
  clear k2
  go_loopg [24] T.length (fun gg v24 wr => ∃ i : Nat, v24 = .int .i64 i ∧ Aside0 (i + gg = T.length) ∧ Aside0 (Below W1.heap.size W1 wr))
  case atStart => exact ⟨0, rfl, ⟨by omega⟩, HB3⟩
  case round =>
    clear HB3
    obtain ⟨i, rfl, HK, HB⟩ := hrel
    have HBw : Aside0 (Below w.heap.size w wr) := ⟨HB1.out.trans (HB.out.mono HB1.out.size)⟩
    by_cases hi : i < T.length
    · obtain rfl : i = 0 := by have := HT.out; omega
      have hib : decide (0 < T.length) = true := decide_eq_true hi
      obtain ⟨ad, A1, c1, eA, cw0, cw1, hc1, hC1⟩ := at_tx (Kd.C_below HC.out HBw.out) hi
      subst eA
      simp only [Nat.zero_mul] at cw0 cw1
      have ea : ad.add 0 = ad := by simp [Addr.add]
      rw [ea] at cw0 cw1
      have HVd := Aside0.mk (fun (W : World) (hM : MaxAt W) (hC : Kd.C kLx W A1 T[0].f1.length T[0].f1) => valid_calls T[0] (HS.out _ (List.getElem_mem hi)) A1 c1 W hM hC)
      rw [HV.out _ (List.getElem_mem hi)] at HVd
      have HC1 := Aside0.mk hC1
      have HHi := Aside0.mk hi
      clear hc1 hC1
      generalize T[0] = ti at cw0 cw1 HVd HC1
      have HB0 : Aside0 (Below wr.heap.size wr (wr.alloc (.cells #[.string ti.f0, .slice A1 ti.f1.length c1] 25))) := ⟨(Below.refl _ _).alloc (Nat.le_refl _) _⟩
      go_wp2_with fail
      (with_reducible refine (HVd.out _ ((HM.out.of HBw.out).of HB0.out) (Kd.C_below HC1.out HB0.out)).mono ?_)
      rintro e w4 ⟨rfl, hb4⟩
      have HB4 : Aside0 (Below W1.heap.size W1 w4) := ⟨(HB.out.trans (HB0.out.mono HB.out.size)).trans (hb4.mono (Nat.le_trans HB.out.size HB0.out.size))⟩
      clear hb4 HB0 HC1 HVd cw0 cw1
      go_wp2_with fail
      go_quiet (fail)
      go_wp2_with fail
      go_roundg 0
      case measure => have := HK.out; have := HHi.out; omega
      case rel => exact ⟨1, by rfl, ⟨by have := HT.out; have := HHi.out; omega⟩, ⟨pw_below_drewN HB4.out _⟩⟩
    · have hib : decide (i < T.length) = false := decide_eq_false hi
      have hib2 : decide ((i : Int) < (T.length : Int)) = false := by simp; omega
      have h3 := (HB.out.block _ (blk_lt HH.out)).trans HH.out
      have k0 := blk_cell h3 0
      have k1 := blk_cell h3 1
      have k2 := blk_cell h3 2
      have k3 := blk_cell h3 3
      have HH3 := Aside0.mk h3
      clear h3
      go_wp2_with fail
      go_region_held3 (fun w' => w'.cell? ⟨w.heap.size, 0, none⟩ = some (.int .i64 (k : Nat)) ∧ w'.cell? ⟨w.heap.size, 1, none⟩ = some (.int .i64 (wi : Nat)) ∧ w'.cell? ⟨w.heap.size, 2, none⟩ = some (.slice A2 T.length c2) ∧ w'.cell? ⟨w.heap.size, 3, none⟩ = some (.slice A3 P.length c3)) (first | go_keep | exact y01 | exact z01)
        (first
          | (go_at_call 94; refine (HPo.out _ ((HM.out.of HBw.out).of ((Below.refl _ _).drew)) (Kd.C_below (Kd.C_below HC.out HBw.out) ((Below.refl _ _).drew))).mono ?_; rintro e w' ⟨A4, c4, rfl, h3, h4, h5, h6⟩
             have y01 : w'.cell? ⟨w.heap.size, 0, none⟩ = some (.int .i64 (k : Nat)) ∧ w'.cell? ⟨w.heap.size, 1, none⟩ = some (.int .i64 (wi : Nat)) ∧ w'.cell? ⟨w.heap.size, 2, none⟩ = some (.slice A2 T.length c2) ∧ w'.cell? ⟨w.heap.size, 3, none⟩ = some (.slice A3 P.length c3) := ⟨(h5.cell (blk_lt HH3.out)).trans k0, (h5.cell (blk_lt HH3.out)).trans k1, (h5.cell (blk_lt HH3.out)).trans k2, (h5.cell (blk_lt HH3.out)).trans k3⟩
             have HBn := Aside0.mk (HBw.out.trans (((Below.refl _ _).drew.trans h5).mono HBw.out.size))
             have HEq2 := Aside0.mk (equal_calls w' A3 A4 c3 c4 P P (Kd.C_below HCP.out HBn.out) h4 HPl.out HPl.out))
          | (go_at_call 93; refine (HEq2.out).mono ?_; rintro e w'' ⟨rfl, ⟨n5, rfl⟩⟩
             have z01 : (w'.drewN n5).cell? ⟨w.heap.size, 0, none⟩ = some (.int .i64 (k : Nat)) ∧ (w'.drewN n5).cell? ⟨w.heap.size, 1, none⟩ = some (.int .i64 (wi : Nat)) ∧ (w'.drewN n5).cell? ⟨w.heap.size, 2, none⟩ = some (.slice A2 T.length c2) ∧ (w'.drewN n5).cell? ⟨w.heap.size, 3, none⟩ = some (.slice A3 P.length c3) := y01))
      all_goals
        have he : posEq P P = true := (posEq_iff P P).2 rfl
        simp only [he]
        have HBf := Aside0.mk (pw_below_drewN HBn.out n5)
        clear he y01 z01 h3 h4 h5 h6
        go_wp2_with fail
        go_ret
        exact ⟨rfl, HBf.out⟩
end Go.Proofs.YtbakoigejihnaaaGreatDoor.Ps
end
section
set_option linter.unusedSectionVars false
set_option linter.unusedSimpArgs false
set_option linter.unusedVariables false
namespace Go.Proofs.YtbakoigejihnaaaGreatDoor.Ps
open Go.RowKit Go.Proofs.YtbakoigejihnaaaGreatDoorW.PrintWords Go.Proofs.YtbakoigejihnaaaGreatDoorW.PrintLast Go.Proofs.YtbakoigejihnaaaGreatDoorW.PrintMore
open Ref (Lx txt txt_length)
open Wp (Tx TxSmall validT kTx kLx kPr TPr prS Yes MaxAt at_tx valid_calls)

theorem cutTx_from : ∀ W : World, (Instr.slice 32 (.slice none 0 0) (some (.int .i64 0)) none none).run Tryz.prog W = .ok (.slice none 0 0) W := by
  obtain ⟨i0, hi0, hzz⟩ := Option.map_eq_some_iff.1 (show (Tryz.prog.info? TTx).map (fun i => i.size) = some 2 by kernel_rfl)
  intro W
  have := cut_from (P := Tryz.prog) 32 TTx .i64 Tryz.underlying32 hi0 2 hzz none 0 0 (0 : Nat) (by omega) (by omega) W
  simpa using this

theorem raw_one {W : World} {b : Nat} {e : TypeId} {s : ByteArray} {A : Option Addr} {n c : Nat} (h : W.heap[b]? = some (.cells #[.string s, .slice A n c] e (0, 0))) : Kd.C kTr W (some ⟨b, 0, none⟩) 1 [(s, A, n, c)] := by
  refine ⟨rfl, by decide, fun _ => ⟨_, rfl, fun j p hj => ?_⟩⟩
  have hj0 : j = 0 := by
    rcases j with _ | j
    · rfl
    · simp at hj
  subst hj0
  have hp : p = (s, A, n, c) := by simpa using hj.symm
  subst hp
  refine ⟨[.string s, .slice A n c], rfl, ⟨[.string s], [.slice A n c], rfl, rfl, rfl⟩, fun i u hu => ?_⟩
  have ha : (⟨b, 0, none⟩ : Addr).add (0 * kTr.sz + i) = ⟨b, i, none⟩ := by simp [Addr.add]; omega
  rw [ha, blk_cell h i]
  simpa using hu

set_option maxHeartbeats 8000000 in
set_option maxRecDepth 100000 in
theorem add_calls (t : Tx) (A : Option Addr) (c : Nat) (w : World) (hM : MaxAt w) (hC : Kd.C kLx w A t.f1.length t.f1) (hc : t.f1.length ≤ c) (hS : TxSmall t) (hv : validT t = true)
    (k wi : Nat) (hk0 : 1 ≤ k) (hk1 : k ≤ 1024) (hw0 : 1 ≤ wi) (hw1 : wi ≤ 1024) (hP : (prS k wi (txt t.f1)).length ≤ 100000) (v2 v3 : Value) (hv2 : v2 = .slice none 0 0) (hv3 : v3 = .slice none 0 0) :
    Calls Tryz.prog 31 #[.agg #[.int .i64 (k : Nat), .int .i64 (wi : Nat), v2, v3], .agg #[.string t.f0, .slice A t.f1.length c]] w fun e w' =>
      ∃ A2 c2 A3 c3, e = .returned (.tuple #[.agg #[.int .i64 (k : Nat), .int .i64 (wi : Nat), .slice A2 1 c2, .slice A3 (sortP (postsT k wi 0 t)).length c3], .int .i64 0]) ∧ 1 ≤ c2 ∧ (sortP (postsT k wi 0 t)).length ≤ c3 ∧
      (∃ A1 c1, CoMem w.heap.size w' A2 A3 t (sortP (postsT k wi 0 t)) A1 c1) ∧ Below w.heap.size w w' := by
  subst hv2 hv3
  have HM := Aside0.mk hM
  have HC := Aside0.mk hC
  have hlt := hS.2.1
  have HCk : Aside0 (∀ W : World, MaxAt W → Calls Tryz.prog 64 #[.agg #[.int .i64 (k : Nat), .int .i64 (wi : Nat), .slice none 0 0, .slice none 0 0]] W fun e w' => e = .returned (.int .i64 0) ∧ Below W.heap.size W w') :=
    ⟨fun W hM => check_calls [] (Nat.zero_le _) [] none none 0 0 W hM (⟨rfl, by simp, fun h => absurd h (by simp)⟩) (by simp) (by simp) k wi hk0 hk1 hw0 hw1 (by show ([] : List SP).length ≤ _; simp) (by simp) (by show [] = sortP []; simp [sortP]) (⟨rfl, by simp, fun h => absurd h (by simp)⟩)⟩
  have HVd := Aside0.mk (fun (W : World) (hM : MaxAt W) (hC : Kd.C kLx W A t.f1.length t.f1) => valid_calls t hS A c W hM hC)
  rw [hv] at HVd
  have HWh := Aside0.mk (fun (A : Option Addr) (c : Nat) (W : World) (hM : MaxAt W) (hC : Kd.C kTx W A 1 [t]) => with_one t A c W hM hC hS hv k wi hk0 hk1 hw0 hw1 hP _ _ rfl rfl)
  have HCl := Aside0.mk (fun (W : World) (hC : Kd.C kLx W A t.f1.length t.f1) => clone_lx t.f1 A c W hC hlt)
  have hcut := cutTx none 0 0 0 (Nat.le_refl _) (Nat.le_refl _)
  simp only [Int.natCast_zero, Int.ofNat_zero] at hcut
  have hcut2 := cutTx_from
  clear hM hC hS hv hP hlt
  go_enter Tryz.func31, Tryz.ntmps31
  go_wp2_with fail
  obtain ⟨W1, hW1⟩ : ∃ W1, W1 = (((w.alloc (.cells #[.int .i64 (k : Nat), .int .i64 (wi : Nat), .slice none 0 0, .slice none 0 0] TCo)).alloc (.cells #[.string t.f0, .slice A t.f1.length c] TTx)).alloc (.cells #[.int .i64 0, .int .i64 0, .slice none 0 0, .slice none 0 0] TCo)) := ⟨_, rfl⟩
  rw [← hW1]
  have s1 : (w.alloc (.cells #[.int .i64 (k : Nat), .int .i64 (wi : Nat), .slice none 0 0, .slice none 0 0] TCo)).heap.size = w.heap.size + 1 := by simp
  have s2 : ((w.alloc (.cells #[.int .i64 (k : Nat), .int .i64 (wi : Nat), .slice none 0 0, .slice none 0 0] TCo)).alloc (.cells #[.string t.f0, .slice A t.f1.length c] TTx)).heap.size = w.heap.size + 1 + 1 := by simp
  have hh1 : W1.heap[w.heap.size]? = some (.cells #[.int .i64 (k : Nat), .int .i64 (wi : Nat), .slice none 0 0, .slice none 0 0] TCo (0, 0)) := by
    rw [hW1]
    exact (Below.heap_alloc _ _ _ (by omega)).trans ((Below.heap_alloc _ _ _ (by omega)).trans (heap_alloc_new _ _))
  have hh2 : W1.heap[w.heap.size + 1]? = some (.cells #[.string t.f0, .slice A t.f1.length c] TTx (0, 0)) := by
    rw [hW1, ← s1]
    exact (Below.heap_alloc _ _ _ (by omega)).trans (heap_alloc_new _ _)
  have hh3 : W1.heap[w.heap.size + 1 + 1]? = some (.cells #[.int .i64 0, .int .i64 0, .slice none 0 0, .slice none 0 0] TCo (0, 0)) := by
    rw [hW1, ← s2]
    exact heap_alloc_new _ _
  have hB1 : Below w.heap.size w W1 := by rw [hW1]; exact (((Below.refl _ _).alloc (Nat.le_refl _) _).alloc (by omega) _).alloc (by omega) _
  have HH := Aside0.mk (And.intro hh1 (And.intro hh2 hh3))
  have HB1 := Aside0.mk hB1
  have HLt : Aside0 (w.heap.size + 1 + 1 < W1.heap.size) := ⟨blk_lt hh3⟩
  clear hW1 hh1 hh2 hh3 hB1 s1 s2
  (with_reducible refine (HCk.out _ (HM.out.of HB1.out)).mono ?_)
  rintro e w2 ⟨rfl, hb2⟩
  have HB2 := Aside0.mk hb2
  have x0 := blk_cell ((hb2.block _ (blk_lt HH.out.2.1)).trans HH.out.2.1) 0
  have x1 := blk_cell ((hb2.block _ (blk_lt HH.out.2.1)).trans HH.out.2.1) 1
  clear hb2 HCk
  go_wp2_with fail
  have HBw2 : Aside0 (Below w.heap.size w w2) := ⟨HB1.out.trans (HB2.out.mono HB1.out.size)⟩
  (with_reducible refine (HVd.out _ (HM.out.of HBw2.out) (Kd.C_below HC.out HBw2.out)).mono ?_)
  rintro e w3 ⟨rfl, hb3⟩
  have HB3 : Aside0 (Below W1.heap.size W1 w3) := ⟨HB2.out.trans (hb3.mono HB2.out.size)⟩
  clear hb3 HB2 x0 x1 HVd
  have g1 := (HB3.out.block _ (blk_lt HH.out.1)).trans HH.out.1
  have g2 := (HB3.out.block _ (blk_lt HH.out.2.1)).trans HH.out.2.1
  have y0 := blk_cell g1 0
  have y1 := blk_cell g1 1
  have y2 := blk_cell g1 2
  have y3 := blk_cell g1 3
  have z0 := blk_cell g2 0
  have z1 := blk_cell g2 1
  have z2 := blk_frozen g2 1
  go_wp2_with ((go_at_call 65; refine (find_none _ _ _ _).mono ?_; rintro e w' ⟨rfl, rfl⟩))
  have HBw3 : Aside0 (Below w.heap.size w w') := ⟨HB1.out.trans (HB3.out.mono HB1.out.size)⟩
  (with_reducible refine (HCl.out _ (Kd.C_below HC.out HBw3.out)).mono ?_)
  rintro e w5 ⟨v, rfl, hr, hb5⟩
  have hbv := Kd.R_base hr
  obtain ⟨Av, cv, rfl, hcv, hCv⟩ := Kd.R_reads hr
  have HB5 : Aside0 (Below W1.heap.size W1 w5) := ⟨HB3.out.trans (hb5.mono HB3.out.size)⟩
  have HV5 : Aside0 (t.f1.length ≤ cv ∧ Kd.C kLx w5 Av t.f1.length t.f1 ∧ ∀ ad, Av = some ad → W1.heap.size ≤ ad.block) := ⟨hcv, hCv, fun ad e => Nat.le_trans HB3.out.size (hbv ad.block (by rw [e]; rfl))⟩
  clear hb5 hr hbv hcv hCv g1 g2 y0 y1 y2 y3 z0 z1 z2 HCl HBw3 HB3
  have g1 := (HB5.out.block _ (blk_lt HH.out.1)).trans HH.out.1
  have g2 := (HB5.out.block _ (blk_lt HH.out.2.1)).trans HH.out.2.1
  have g3 := (HB5.out.block _ (blk_lt HH.out.2.2)).trans HH.out.2.2
  have z1 := blk_cell g2 1
  have z2 := blk_frozen g2 1
  have HG := Aside0.mk (And.intro g1 (And.intro g2 g3))
  clear g1 g2 g3
  go_wp2_with fail
  clear z1 z2
  obtain ⟨W6, hW6⟩ : ∃ W6, W6 = w5.setCell ⟨w.heap.size + 1, 1, none⟩ (.slice Av t.f1.length cv) := ⟨_, rfl⟩
  rw [← hW6]
  have g1 : W6.heap[w.heap.size]? = some (.cells #[.int .i64 (k : Nat), .int .i64 (wi : Nat), .slice none 0 0, .slice none 0 0] TCo (0, 0)) := by rw [hW6]; exact blk_far HG.out.1 (by show w.heap.size ≠ w.heap.size + 1; omega) _
  have g2 : W6.heap[w.heap.size + 1]? = some (.cells #[.string t.f0, .slice Av t.f1.length cv] TTx (0, 0)) := by rw [hW6]; exact blk_set HG.out.2.1 1 _
  have g3 : W6.heap[w.heap.size + 1 + 1]? = some (.cells #[.int .i64 0, .int .i64 0, .slice none 0 0, .slice none 0 0] TCo (0, 0)) := by rw [hW6]; exact blk_far HG.out.2.2 (by show w.heap.size + 1 + 1 ≠ w.heap.size + 1; omega) _
  have hB6 : Below w.heap.size w W6 := by rw [hW6]; exact (HB1.out.trans (HB5.out.mono HB1.out.size)).setCell (by show w.heap.size ≤ w.heap.size + 1; omega) _
  have hN6 : W1.heap.size ≤ W6.heap.size := by rw [hW6]; have := HB5.out.size; simpa [World.setCell] using this
  have hC6 : Kd.C kLx W6 Av t.f1.length t.f1 := by
    rw [hW6]
    exact C_set HV5.out.2.1 HV5.out.2.2 (by have := HLt.out; omega) 1 _ (fun x cs hk => by rw [Ref.k35_open hk]; exact Ref.k35_mk _ x)
  have HG6 := Aside0.mk (And.intro g1 (And.intro g2 g3))
  have HB6 := Aside0.mk hB6
  have HN6 := Aside0.mk hN6
  have HC6 := Aside0.mk hC6
  have y0 := blk_cell g1 0
  have y1 := blk_cell g1 1
  have y2 := blk_cell g1 2
  have y3 := blk_cell g1 3
  have z0 := blk_cell g2 0
  have z1 := blk_cell g2 1
  have HL6 : Aside0 (w.heap.size + 1 + 1 < W6.heap.size) := ⟨blk_lt g3⟩
  clear hW6 g1 g2 g3 hB6 hN6 hC6 HG HB5
  have hwa : (W6.drew.alloc (.cells #[.string t.f0, .slice Av t.f1.length cv] TTx)).heap.size = W6.heap.size + 1 := by rw [World.size_alloc]; rfl
  have hgB : ((W6.drew.alloc (.cells #[.string t.f0, .slice Av t.f1.length cv] TTx)).alloc (.cells #[.slice none 0 0, .slice (some ⟨W6.heap.size, 0, none⟩) 1 1, .slice none 0 0] 32)).heap[W6.heap.size + 1]? = some (.cells #[.slice none 0 0, .slice (some ⟨W6.heap.size, 0, none⟩) 1 1, .slice none 0 0] 32 (0, 0)) := by
    rw [← hwa]; exact heap_alloc_new _ _
  have hxB : Kd.C kTr ((W6.drew.alloc (.cells #[.string t.f0, .slice Av t.f1.length cv] TTx)).alloc (.cells #[.slice none 0 0, .slice (some ⟨W6.heap.size, 0, none⟩) 1 1, .slice none 0 0] 32)) (some ⟨W6.heap.size, 0, none⟩) 1 [(t.f0, Av, t.f1.length, cv)] :=
    raw_one ((Below.heap_alloc _ _ _ (by rw [hwa]; exact Nat.lt_succ_self _)).trans (heap_alloc_new W6.drew _))
  have hbB : Below W6.heap.size W6 ((W6.drew.alloc (.cells #[.string t.f0, .slice Av t.f1.length cv] TTx)).alloc (.cells #[.slice none 0 0, .slice (some ⟨W6.heap.size, 0, none⟩) 1 1, .slice none 0 0] 32)) :=
    ((Below.refl _ _).drew.alloc (Nat.le_refl _) _).alloc (by rw [hwa]; exact Nat.le_succ _) _
  have HgB := Aside0.mk hgB
  have HxB := Aside0.mk hxB
  have HbB := Aside0.mk hbB
  clear hwa hgB hxB hbB
  have hne1 : w.heap.size + 1 + 1 ≠ w.heap.size := by omega
  have hne2 : w.heap.size + 1 + 1 ≠ w.heap.size + 1 := by omega
  have hbb : w.heap.size ≤ w.heap.size + 1 + 1 := by omega
  generalize w.heap.size + 1 + 1 = b3 at HG6 HL6 HLt hne1 hne2 hbb ⊢
  have HBB := Aside0.mk hbb
  clear hbb
  have e1 := World.new_ne W6 _ y0
  have e2 := World.new_ne W6 _ z0
  go_region_held3 (fun w' => w'.cell? ⟨w.heap.size, 0, none⟩ = some (.int .i64 (k : Nat)) ∧ w'.cell? ⟨w.heap.size, 1, none⟩ = some (.int .i64 (wi : Nat)) ∧ w'.cell? ⟨w.heap.size, 2, none⟩ = some (.slice none 0 0) ∧ w'.cell? ⟨w.heap.size, 3, none⟩ = some (.slice none 0 0) ∧ w'.cell? ⟨w.heap.size + 1, 0, none⟩ = some (.string t.f0) ∧ w'.cell? ⟨w.heap.size + 1, 1, none⟩ = some (.slice Av t.f1.length cv)) (first | go_keep | exact y01 | exact z01)
    (first
      | (go_at_call 68; refine (concat_one _ _ (t.f0, Av, t.f1.length, cv) 0 _ (by exact HgB.out) (by exact HxB.out)).mono ?_; rintro e w' ⟨v5, rfl, h5, h6⟩
         have HR7 := Aside0.mk (And.intro h5 h6)
         obtain ⟨A5, c5, rfl, h7, h8⟩ := Kd.R_reads h5
         have HC7 := Aside0.mk (And.intro h7 h8)
         have hb7 : Below W6.heap.size W6 w' := HbB.out.trans (h6.mono HbB.out.size)
         have y01 : w'.cell? ⟨w.heap.size, 0, none⟩ = some (.int .i64 (k : Nat)) ∧ w'.cell? ⟨w.heap.size, 1, none⟩ = some (.int .i64 (wi : Nat)) ∧ w'.cell? ⟨w.heap.size, 2, none⟩ = some (.slice none 0 0) ∧ w'.cell? ⟨w.heap.size, 3, none⟩ = some (.slice none 0 0) ∧ w'.cell? ⟨w.heap.size + 1, 0, none⟩ = some (.string t.f0) ∧ w'.cell? ⟨w.heap.size + 1, 1, none⟩ = some (.slice Av t.f1.length cv) := ⟨(hb7.cell (blk_lt HG6.out.1)).trans y0, (hb7.cell (blk_lt HG6.out.1)).trans y1, (hb7.cell (blk_lt HG6.out.1)).trans y2, (hb7.cell (blk_lt HG6.out.1)).trans y3, (hb7.cell (blk_lt HG6.out.2.1)).trans z0, (hb7.cell (blk_lt HG6.out.2.1)).trans z1⟩
         have HB7 := Aside0.mk hb7)
      | (go_at_call 67; refine (HWh.out A5 c5 _ (HM.out.of (HB6.out.trans (HB7.out.mono HB6.out.size))) (tx_one HC7.out.2 HV5.out.1 (Kd.C_below HC6.out HB7.out))).mono ?_; rintro e w'' ⟨A2, c2, A3, c3, rfl, k1, k2, k3, hb8⟩
         have z01 : w''.cell? ⟨w.heap.size, 0, none⟩ = some (.int .i64 (k : Nat)) ∧ w''.cell? ⟨w.heap.size, 1, none⟩ = some (.int .i64 (wi : Nat)) ∧ w''.cell? ⟨w.heap.size, 2, none⟩ = some (.slice none 0 0) ∧ w''.cell? ⟨w.heap.size, 3, none⟩ = some (.slice none 0 0) ∧ w''.cell? ⟨w.heap.size + 1, 0, none⟩ = some (.string t.f0) ∧ w''.cell? ⟨w.heap.size + 1, 1, none⟩ = some (.slice Av t.f1.length cv) := ⟨(hb8.cell (Nat.lt_of_lt_of_le (blk_lt HG6.out.1) HB7.out.size)).trans y01.1, (hb8.cell (Nat.lt_of_lt_of_le (blk_lt HG6.out.1) HB7.out.size)).trans y01.2.1, (hb8.cell (Nat.lt_of_lt_of_le (blk_lt HG6.out.1) HB7.out.size)).trans y01.2.2.1, (hb8.cell (Nat.lt_of_lt_of_le (blk_lt HG6.out.1) HB7.out.size)).trans y01.2.2.2.1, (hb8.cell (Nat.lt_of_lt_of_le (blk_lt HG6.out.2.1) HB7.out.size)).trans y01.2.2.2.2.1, (hb8.cell (Nat.lt_of_lt_of_le (blk_lt HG6.out.2.1) HB7.out.size)).trans y01.2.2.2.2.2⟩
         have HQ := Aside0.mk (And.intro k1 (And.intro k2 (And.intro k3 hb8)))
         have hb9 : w''.heap[b3]? = some (.cells #[.int .i64 0, .int .i64 0, .slice none 0 0, .slice none 0 0] TCo (0, 0)) := (hb8.block _ (Nat.lt_of_lt_of_le (blk_lt HG6.out.2.2) HB7.out.size)).trans ((HB7.out.block _ (blk_lt HG6.out.2.2)).trans HG6.out.2.2)
         have f0 := blk_frozen hb9 0
         have f1 := blk_frozen hb9 1
         have f2 := blk_frozen hb9 2
         have f3 := blk_frozen hb9 3
         have d0 := blk_cell hb9 0
         have d1 := blk_cell hb9 1
         have d2 := blk_cell hb9 2
         have d3 := blk_cell hb9 3))
  all_goals
    have hf := blk_set (blk_set (blk_set (blk_set hb9 0 (.int .i64 (k : Nat))) 1 (.int .i64 (wi : Nat))) 2 (.slice A2 1 c2)) 3 (.slice A3 (sortP (postsT k wi 0 t)).length c3)
    have r0 := blk_cell hf 0
    have r1 := blk_cell hf 1
    have r2 := blk_cell hf 2
    have r3 := blk_cell hf 3
    have HFin : Aside0 (Below w.heap.size w w'') := ⟨HB6.out.trans ((HB7.out.trans (HQ.out.2.2.2.mono HB7.out.size)).mono HB6.out.size)⟩
    clear hf y01 z01 hb9 f0 f1 f2 f3 d0 d1 d2 d3 k1 k2 k3 hb8
    go_wp2_with fail
    refine bodyPost_ret (v := .tuple #[.agg #[.int .i64 (k : Nat), .int .i64 (wi : Nat), .slice A2 1 c2, .slice A3 (sortP (postsT k wi 0 t)).length c3], .int .i64 0]) (by simp [results, Tryz.f31, go_sem, r0, r1, r2, r3]) rfl ?_
    obtain ⟨q1, q2, ⟨A1, c1, hco⟩, _⟩ := HQ.out
    have hlt : b3 < w'.heap.size := Nat.lt_of_lt_of_le HL6.out HB7.out.size
    exact ⟨A2, c2, A3, c3, rfl, q1, q2, ⟨A1, c1, ((((hco.set hlt 0 _).set hlt 1 _).set hlt 2 _).set hlt 3 _).lower (Nat.le_trans HB6.out.size HB7.out.size)⟩, (((HFin.out.setCell HBB.out _).setCell HBB.out _).setCell HBB.out _).setCell HBB.out _⟩
end Go.Proofs.YtbakoigejihnaaaGreatDoor.Ps
end
section
set_option linter.unusedSectionVars false
set_option linter.unusedSimpArgs false
set_option linter.unusedVariables false
namespace Go.Proofs.YtbakoigejihnaaaGreatDoor.Ps
open Go.RowKit Go.Proofs.YtbakoigejihnaaaGreatDoorW.PrintWords Go.Proofs.YtbakoigejihnaaaGreatDoorW.PrintLast Go.Proofs.YtbakoigejihnaaaGreatDoorW.PrintMore

set_option maxHeartbeats 4000000 in
set_option maxRecDepth 100000 in
theorem new_calls (k wi : Nat) (hk0 : 1 ≤ k) (hk1 : k ≤ 1024) (hw0 : 1 ≤ wi) (hw1 : wi ≤ 1024) (w : World) :
    Calls Tryz.prog 30 #[.int .i64 (k : Nat), .int .i64 (wi : Nat)] w fun e w' => e = .returned (.tuple #[.agg #[.int .i64 (k : Nat), .int .i64 (wi : Nat), .slice none 0 0, .slice none 0 0], .int .i64 0]) ∧ Below w.heap.size w w' := by
  have HSz1 := Aside0.mk (fun (W : World) => size_calls k hk0 hk1 W)
  have HSz2 := Aside0.mk (fun (W : World) => size_calls wi hw0 hw1 W)
  go_enter Tryz.func30, Tryz.ntmps30
  go_wp2_with fail
  (with_reducible refine (HSz1.out _).mono ?_)
  rintro e w2 ⟨rfl, ⟨n2, rfl⟩⟩
  go_wp2_with fail
  (with_reducible refine (HSz2.out _).mono ?_)
  rintro e w3 ⟨rfl, ⟨n3, rfl⟩⟩
  obtain ⟨W1, hW1⟩ : ∃ W1, W1 = w.alloc (.cells #[.int .i64 0, .int .i64 0, .slice none 0 0, .slice none 0 0] TCo) := ⟨_, rfl⟩
  rw [← hW1]
  have hh1 : W1.heap[w.heap.size]? = some (.cells #[.int .i64 0, .int .i64 0, .slice none 0 0, .slice none 0 0] TCo (0, 0)) := by rw [hW1]; exact heap_alloc_new _ _
  have hB1 : Below w.heap.size w W1 := by rw [hW1]; exact (Below.refl _ _).alloc (Nat.le_refl _) _
  have HB1 : Aside0 (Below w.heap.size w ((W1.drewN n2).drewN n3)) := ⟨pw_below_drewN (pw_below_drewN hB1 _) _⟩
  have hh2 := blk_drewN (blk_drewN hh1 n2) n3
  clear hW1 hh1 hB1 HSz1 HSz2
  generalize ((W1.drewN n2).drewN n3) = W3 at HB1 hh2 ⊢
  have f0 := blk_frozen hh2 0
  have f1 := blk_frozen hh2 1
  have f2 := blk_frozen hh2 2
  have f3 := blk_frozen hh2 3
  have d0 := blk_cell hh2 0
  have d1 := blk_cell hh2 1
  have d2 := blk_cell hh2 2
  have d3 := blk_cell hh2 3
  have HH := Aside0.mk hh2
  clear hh2
  go_wp2_with fail
  have hf := blk_set (blk_set (blk_set (blk_set HH.out 0 (.int .i64 (k : Nat))) 1 (.int .i64 (wi : Nat))) 2 (.slice none 0 0)) 3 (.slice none 0 0)
  have r0 := blk_cell hf 0
  have r1 := blk_cell hf 1
  have r2 := blk_cell hf 2
  have r3 := blk_cell hf 3
  refine bodyPost_ret (v := .tuple #[.agg #[.int .i64 (k : Nat), .int .i64 (wi : Nat), .slice none 0 0, .slice none 0 0], .int .i64 0]) (by simp [results, Tryz.f30, go_sem, r0, r1, r2, r3]) rfl ?_
  exact ⟨rfl, (((HB1.out.setCell (Nat.le_refl _) _).setCell (Nat.le_refl _) _).setCell (Nat.le_refl _) _).setCell (Nat.le_refl _) _⟩
end Go.Proofs.YtbakoigejihnaaaGreatDoor.Ps
end
section
set_option linter.unusedSectionVars false
set_option linter.unusedSimpArgs false
set_option linter.unusedVariables false
namespace Go.Proofs.YtbakoigejihnaaaGreatDoor.Ps
open Go.RowKit Go.Proofs.YtbakoigejihnaaaGreatDoorW.PrintWords Go.Proofs.YtbakoigejihnaaaGreatDoorW.PrintLast Go.Proofs.YtbakoigejihnaaaGreatDoorW.PrintMore

set_option maxHeartbeats 4000000 in
set_option maxRecDepth 100000 in
theorem insertion_small (n : Nat) (hn : n ≤ 1) (A : Option Addr) (c : Nat) (fv : Value) (w : World) :
    Calls Tryz.prog 122 #[.slice A n c, .int .i64 0, .int .i64 (n : Nat), fv] w fun e w' => e = .returned (.tuple #[]) ∧ w' = w := by
  have hb : decide ((1 : Int) < (n : Int)) = false := by simp; omega
  have hb2 : decide (1 < n) = false := by simp; omega
  go_enter Tryz.func122, Tryz.ntmps122
  go_wp2_with fail
  go_loopg [8] 0 (fun gg v8 wr => v8 = .int .i64 1 ∧ wr = w)
  case atStart => exact ⟨rfl, rfl⟩
  case round =>
    obtain ⟨rfl, rfl⟩ := hrel
    go_wp2_with fail
    go_end0
    exact ⟨rfl, rfl⟩

set_option maxHeartbeats 4000000 in
set_option maxRecDepth 100000 in
theorem stable_small (n : Nat) (hn : n ≤ 1) (A : Option Addr) (c : Nat) (fv : Value) (w : World) :
    Calls Tryz.prog 99 #[.slice A n c, .int .i64 (n : Nat), fv] w fun e w' => e = .returned (.tuple #[]) ∧ w' = w := by
  have hb : decide ((20 : Int) ≤ (n : Int)) = false := by simp; omega
  have hb2 : decide (20 ≤ n) = false := by simp; omega
  have hb3 : decide ((20 : Int) < (n : Int)) = false := by simp; omega
  have hb4 : decide (20 < n) = false := by simp; omega
  go_enter Tryz.func99, Tryz.ntmps99
  go_wp2_with fail
  go_loopg [7, 8] 0 (fun gg v7 v8 wr => v7 = .int .i64 0 ∧ v8 = .int .i64 20 ∧ wr = w)
  case atStart => exact ⟨rfl, rfl, rfl⟩
  case round =>
    obtain ⟨rfl, rfl, rfl⟩ := hrel
    go_wp2_with fail
    (with_reducible refine (insertion_small n hn A c fv _).mono ?_)
    rintro e w' ⟨rfl, hw⟩
    subst hw
    go_wp2_with fail
    go_loopg [6] 0 (fun gg v6 wr => v6 = .int .i64 20 ∧ wr = w')
    case atStart => exact ⟨rfl, rfl⟩
    case round =>
      obtain ⟨rfl, rfl⟩ := hrel
      go_wp2_with fail
      go_end0
      exact ⟨rfl, rfl⟩
theorem sortstable_small (n : Nat) (hn : n ≤ 1) (A : Option Addr) (c : Nat) (fv : Value) (w : World) :
    Calls Tryz.prog 69 #[.slice A n c, fv] w fun e w' => e = .returned (.tuple #[]) ∧ w' = w := by
  go_enter Tryz.func69, Tryz.ntmps69
  go_wp2_with fail
  (with_reducible refine (stable_small n hn A c fv _).mono ?_)
  rintro e w' ⟨rfl, hw⟩
  subst hw
  go_wp2_with fail
  go_end0
  exact ⟨rfl, rfl⟩
end Go.Proofs.YtbakoigejihnaaaGreatDoor.Ps
end
section
set_option linter.unusedSectionVars false
set_option linter.unusedSimpArgs false
set_option linter.unusedVariables false
namespace Go.Proofs.YtbakoigejihnaaaGreatDoor.Ps

/-- the hash of a post -/
def hashAt (P : List SP) (i : Nat) : Int := (P.getD i ⟨0, 0, 0⟩).f0
/-- is a post the first one with its hash (all are of one text) -/
def firstAt (P : List SP) (i : Nat) : Bool := decide (i = 0) || !decide (hashAt P (i - 1) = hashAt P i)
/-- how many of the first posts are first ones with a wanted hash -/
def cnt (P : List SP) (W : Int → Bool) : Nat → Nat
  | 0 => 0
  | i + 1 => cnt P W i + (if (firstAt P i && W (hashAt P i)) = true then 1 else 0)
theorem cnt_le (P : List SP) (W : Int → Bool) : ∀ i, cnt P W i ≤ i
  | 0 => Nat.le_refl _
  | i + 1 => by
    have := cnt_le P W i
    unfold cnt
    split <;> omega
theorem cnt_pos (P : List SP) (W : Int → Bool) : ∀ i, (0 < cnt P W i ↔ ∃ j, j < i ∧ W (hashAt P j) = true)
  | 0 => by simp [cnt]
  | i + 1 => by
    have ih := cnt_pos P W i
    constructor
    · intro h
      unfold cnt at h
      by_cases g : (firstAt P i && W (hashAt P i)) = true
      · rw [Bool.and_eq_true] at g
        exact ⟨i, by omega, g.2⟩
      · rw [if_neg g] at h
        obtain ⟨j, hj, hw⟩ := ih.1 (by omega)
        exact ⟨j, by omega, hw⟩
    · rintro ⟨j, hj, hw⟩
      by_cases hji : j < i
      · have := ih.2 ⟨j, hji, hw⟩
        unfold cnt
        omega
      · obtain rfl : j = i := by omega
        by_cases g : firstAt P j = true
        · unfold cnt
          rw [if_pos (by rw [g, hw]; rfl)]
          omega
        · have g' : firstAt P j = false := by simpa using g
          unfold firstAt at g'
          rw [Bool.or_eq_false_iff, decide_eq_false_iff_not] at g'
          obtain ⟨h0, h1⟩ := g'
          have h2 : hashAt P (j - 1) = hashAt P j := by simpa using h1
          have := ih.2 ⟨j - 1, by omega, by rw [h2]; exact hw⟩
          unfold cnt
          omega
end Go.Proofs.YtbakoigejihnaaaGreatDoor.Ps
end
section
set_option linter.unusedSectionVars false
set_option linter.unusedSimpArgs false
set_option linter.unusedVariables false
namespace Go.Proofs.YtbakoigejihnaaaGreatDoor.Ps
open Go.RowKit Go.MapG Go.Proofs.YtbakoigejihnaaaGreatDoorW.PrintWords Go.Proofs.YtbakoigejihnaaaGreatDoorW.PrintLast Go.Proofs.YtbakoigejihnaaaGreatDoorW.PrintMore
open Ref (Lx txt txt_length)
open Wp (Tx TxSmall validT kTx kLx kPr TPr prS Yes MaxAt at_tx at_pr valid_calls prints_calls kvI keyI)

/-- the hashes that a text's fingerprints bear -/
def wantedB (ps : List (Int × Int)) (h : Int) : Bool := ps.any fun p => decide (p.1 = h)

theorem wantedB_snoc (l : List (Int × Int)) (s x h : Int) : wantedB (l ++ [(s, x)]) h = (wantedB l h || decide (s = h)) := by
  unfold wantedB; rw [List.any_append, List.any_cons, List.any_nil, Bool.or_false]

theorem sortP_text {k wi : Nat} {t : Tx} {p : SP} (hp : p ∈ sortP (postsT k wi 0 t)) : p.f1 = 0 := by
  have := (sortP_perm _).mem_iff.1 hp
  unfold postsT at this
  obtain ⟨q, _, rfl⟩ := List.mem_map.1 this
  rfl
/-- the count of shared fingerprints as the map holds it -/
def sharedF (n : Nat) (h : Int) : Option Value := if h = 0 ∧ 0 < n then some (.int .i64 (n : Nat)) else none
theorem sharedF_zero : sharedF 0 = fun _ => none := by
  funext h; unfold sharedF; rw [if_neg (by omega)]
theorem sharedF_succ (n : Nat) : (fun d => if d = 0 then some (Value.int .i64 ((n + 1 : Nat) : Int)) else sharedF n d) = sharedF (n + 1) := by
  funext d
  unfold sharedF
  by_cases e : d = 0
  · rw [if_pos e, if_pos ⟨e, by omega⟩]
  · rw [if_neg e, if_neg (fun k => e k.1), if_neg (fun k => e k.1)]
theorem sharedF_get (n : Nat) : (sharedF n 0).getD (.int .i64 0) = .int .i64 (n : Nat) := by
  unfold sharedF
  by_cases h : 0 < n
  · rw [if_pos ⟨rfl, h⟩]; rfl
  · obtain rfl : n = 0 := by omega
    rfl

theorem infoI : (Tryz.prog.info? 3).map (fun i => (i.zero, i.size, i.bytes)) = some (some (.int .i64 0), 1, 8) := by kernel_rfl
/-- the texts that are near: the one text of the corpus, or none -/
def nearL (n : Nat) : List Int := if 0 < n then [0] else []
def NearPost (w : World) (l : List Int) (e : Ending) (w' : World) : Prop :=
  ∃ A4 c4, e = .returned (.tuple #[.slice A4 l.length c4, .int .i64 0]) ∧ l.length ≤ c4 ∧ Kd.C (Kd.int .i64) w' A4 l.length l ∧ Below w.heap.size w w'
set_option maxHeartbeats 8000000 in
set_option maxRecDepth 100000 in
theorem near_calls (t b : Tx) (A A1 A2 A3 : Option Addr) (c c1 c2 c3 N : Nat) (P : List SP) (w : World) (hM : MaxAt w) (hCo : CoMem N w A2 A3 t P A1 c1) (hSt : TxSmall t) (hvt : validT t = true)
    (hC : Kd.C kLx w A b.f1.length b.f1) (hc : b.f1.length ≤ c) (hS : TxSmall b) (hv : validT b = true)
    (k wi : Nat) (hk0 : 1 ≤ k) (hk1 : k ≤ 1024) (hw0 : 1 ≤ wi) (hw1 : wi ≤ 1024) (hP : P = sortP (postsT k wi 0 t)) (hPt : (prS k wi (txt t.f1)).length ≤ 100000) (hPb : (prS k wi (txt b.f1)).length ≤ 100000) :
    Calls Tryz.prog 32 #[.agg #[.int .i64 (k : Nat), .int .i64 (wi : Nat), .slice A2 1 c2, .slice A3 P.length c3], .agg #[.string b.f0, .slice A b.f1.length c]] w (NearPost w (nearL (cnt P (wantedB (prS k wi (txt b.f1))) P.length))) := by
  have HM := Aside0.mk hM
  have HC := Aside0.mk hC
  have HCo := Aside0.mk hCo
  have hpl : (postsU [t] k wi [t].length).length ≤ 100000 := by
    show ([] ++ postsT k wi 0 t).length ≤ _
    rw [List.nil_append]; unfold postsT; rw [List.length_map]; exact hPt
  have HCk : Aside0 (∀ W : World, MaxAt W → Kd.C kTx W A2 1 [t] → Kd.C kP W A3 P.length P → Calls Tryz.prog 64 #[.agg #[.int .i64 (k : Nat), .int .i64 (wi : Nat), .slice A2 1 c2, .slice A3 P.length c3]] W fun e w' => e = .returned (.int .i64 0) ∧ Below W.heap.size W w') :=
    ⟨fun W hM hC hCP => check_calls [t] (by simp) P A2 A3 c2 c3 W hM hC (by intro x hx; rw [List.mem_singleton.1 hx]; exact hSt) (by intro x hx; rw [List.mem_singleton.1 hx]; exact hvt) k wi hk0 hk1 hw0 hw1 hpl (by intro x hx; rw [List.mem_singleton.1 hx]; exact hPt) (by rw [hP]; rfl) hCP⟩
  have HVd := Aside0.mk (fun (W : World) (hM : MaxAt W) (hC : Kd.C kLx W A b.f1.length b.f1) => valid_calls b hS A c W hM hC)
  rw [hv] at HVd
  have HPr := Aside0.mk (fun (W : World) (hM : MaxAt W) (hC : Kd.C kLx W A b.f1.length b.f1) => prints_calls b hS hv A c W hM hC hc k wi hk0 hk1 hw0 hw1)
  have HPb := Aside0.mk hPb
  have hPl : P.length ≤ 100000 := by rw [hP, sortP_length]; unfold postsT; rw [List.length_map]; exact hPt
  have HPl := Aside0.mk hPl
  have HP0 : Aside0 (∀ p, p ∈ P → p.f1 = 0) := ⟨fun p hp => sortP_text (by rw [← hP]; exact hp)⟩
  clear hM hC hCo hS hv hSt hvt hP hPt hPb hPl hpl
  go_enter Tryz.func32, Tryz.ntmps32
  go_wp2_with fail
  obtain ⟨W1, hW1⟩ : ∃ W1, W1 = ((w.alloc (.cells #[.int .i64 (k : Nat), .int .i64 (wi : Nat), .slice A2 1 c2, .slice A3 P.length c3] TCo)).alloc (.cells #[.string b.f0, .slice A b.f1.length c] TTx)) := ⟨_, rfl⟩
  rw [← hW1]
  have s1 : (w.alloc (.cells #[.int .i64 (k : Nat), .int .i64 (wi : Nat), .slice A2 1 c2, .slice A3 P.length c3] TCo)).heap.size = w.heap.size + 1 := by simp
  have hh1 : W1.heap[w.heap.size]? = some (.cells #[.int .i64 (k : Nat), .int .i64 (wi : Nat), .slice A2 1 c2, .slice A3 P.length c3] TCo (0, 0)) := by
    rw [hW1]
    exact (Below.heap_alloc _ _ _ (by omega)).trans (heap_alloc_new _ _)
  have hh2 : W1.heap[w.heap.size + 1]? = some (.cells #[.string b.f0, .slice A b.f1.length c] TTx (0, 0)) := by
    rw [hW1, ← s1]
    exact heap_alloc_new _ _
  have hB1 : Below w.heap.size w W1 := by rw [hW1]; exact ((Below.refl _ _).alloc (Nat.le_refl _) _).alloc (by omega) _
  have HH := Aside0.mk (And.intro hh1 hh2)
  have HB1 := Aside0.mk hB1
  clear hW1 hh1 hh2 hB1 s1
  (with_reducible refine (HCk.out _ (HM.out.of HB1.out) (Kd.C_below HCo.out.texts HB1.out) (Kd.C_below HCo.out.posts HB1.out)).mono ?_)
  rintro e w2 ⟨rfl, hb2⟩
  have HB2 := Aside0.mk hb2
  have x0 := blk_cell ((hb2.block _ (blk_lt HH.out.2)).trans HH.out.2) 0
  have x1 := blk_cell ((hb2.block _ (blk_lt HH.out.2)).trans HH.out.2) 1
  clear hb2 HCk
  go_wp2_with fail
  have HBw2 : Aside0 (Below w.heap.size w w2) := ⟨HB1.out.trans (HB2.out.mono HB1.out.size)⟩
  (with_reducible refine (HVd.out _ (HM.out.of HBw2.out) (Kd.C_below HC.out HBw2.out)).mono ?_)
  rintro e w3 ⟨rfl, hb3⟩
  have HB3 : Aside0 (Below W1.heap.size W1 w3) := ⟨HB2.out.trans (hb3.mono HB2.out.size)⟩
  clear hb3 HB2 x0 x1 HVd HBw2
  have HBw3 : Aside0 (Below w.heap.size w w3) := ⟨HB1.out.trans (HB3.out.mono HB1.out.size)⟩
  have g1 := (HB3.out.block _ (blk_lt HH.out.1)).trans HH.out.1
  have g2 := (HB3.out.block _ (blk_lt HH.out.2)).trans HH.out.2
  have y0 := blk_cell g1 0
  have y1 := blk_cell g1 1
  have z0 := blk_cell g2 0
  have z1 := blk_cell g2 1
  clear g1 g2
  go_wp2_with fail
  (with_reducible refine (HPr.out _ (HM.out.of HBw3.out) (Kd.C_below HC.out HBw3.out)).mono ?_)
  rintro e w4 ⟨vp, rfl, hrp, hb4⟩
  obtain ⟨D, d, rfl, hd, hCd⟩ := Kd.R_reads hrp
  have HB4 : Aside0 (Below W1.heap.size W1 w4) := ⟨HB3.out.trans (hb4.mono HB3.out.size)⟩
  have HRp : Aside0 (Kd.R kPr TPr w4 W1.heap.size Yes (.slice D (prS k wi (txt b.f1)).length d) (prS k wi (txt b.f1))) := ⟨Kd.R_lower hrp HB3.out.size⟩
  clear hb4 hrp hd hCd HB3 HBw3 y0 y1 z0 z1 HPr
  generalize hps : prS k wi (txt b.f1) = ps at HRp HPb ⊢
  have HPs := Aside0.mk hps
  clear hps
  have hmm := @run_makeMap Tryz.prog
  go_wp2_with fail
  clear hmm
  obtain ⟨W5, hW5⟩ : ∃ W5, W5 = w4.alloc (.map #[] 0) := ⟨_, rfl⟩
  rw [← hW5]
  have hm5 : W5.heap[w4.heap.size]? = some (.map #[] 0) := by rw [hW5]; exact heap_alloc_new _ _
  have hb5 : Below w4.heap.size w4 W5 := by rw [hW5]; exact (Below.refl _ _).alloc (Nat.le_refl _) _
  have HM5 : Aside0 (HasMap kvI W5 w4.heap.size (fun _ => none)) := ⟨HasMap.new W5 W5 hm5⟩
  have HB5 : Aside0 (Below W1.heap.size W1 W5) := ⟨HB4.out.trans (hb5.mono HB4.out.size)⟩
  have HRp5 := Aside0.mk (Kd.R_below HRp.out hb5)
  have HBm : Aside0 (W1.heap.size ≤ w4.heap.size) := ⟨HB4.out.size⟩
  clear hW5 hm5 hb5 HRp HB4
  generalize w4.heap.size = bm at HM5 HBm ⊢
  go_loopg [37] ps.length (fun gg v37 wr => ∃ m : Nat, v37 = .int .i64 m ∧ Aside0 (m + gg = ps.length) ∧ Aside0 (HasMap kvI wr bm (fun h => if wantedB (ps.take m) h = true then some (.bool true) else none)) ∧ Aside0 (Below W1.heap.size W1 wr) ∧
      Aside0 (Kd.R kPr TPr wr W1.heap.size Yes (.slice D ps.length d) ps))
  case atStart => exact ⟨0, rfl, ⟨by omega⟩, ⟨by simpa [wantedB] using HM5.out⟩, HB5, HRp5⟩
  case round =>
    clear HM5 HB5 HRp5
    obtain ⟨m, rfl, HK, HMm, HBm2, HRm⟩ := hrel
    by_cases hm : m < ps.length
    · have hmb : decide (m < ps.length) = true := decide_eq_true hm
      obtain ⟨ad1, e1, q0, q1⟩ := at_pr (Kd.R_reads' HRm.out).2.2 hm
      subst e1
      have HTk : Aside0 (ps.take (m + 1) = ps.take m ++ [ps.getD m (0, 0)]) := ⟨by rw [List.take_succ_eq_append_getElem hm, List.getD_eq_getElem?_getD, List.getElem?_eq_getElem hm]; rfl⟩
      generalize ps.getD m (0, 0) = p at q0 q1 HTk
      obtain ⟨s, x⟩ := p
      simp only at q0 q1
      have HHm := Aside0.mk hm
      have hb4 : Below wr.heap.size wr (wr.alloc (.cells #[.int .i64 s, .int .i64 x] 88)) := (Below.refl _ _).alloc (Nat.le_refl _) _
      obtain ⟨w6, hrun, hm6, hg6⟩ := (HMm.out.below hb4).store Tryz.underlying131 keyI s (.bool true)
      change (Instr.mapUpdate 131 (.map (some bm)) (.int .i64 s) (.bool true)).run Tryz.prog (wr.alloc (.cells #[.int .i64 s, .int .i64 x] 88)) = .ok () w6 at hrun
      have HB6 : Aside0 (Below W1.heap.size W1 w6) := ⟨(HBm2.out.trans (hb4.mono HBm2.out.size)).grown hg6 (Nat.le_trans HBm2.out.size hb4.size) (fun q hq => by injection hq with hq; have := HBm.out; omega)⟩
      have HM6 : Aside0 (HasMap kvI w6 bm (fun h => if wantedB (ps.take (m + 1)) h = true then some (.bool true) else none)) := ⟨by
        refine cast (congrArg (HasMap kvI w6 bm) (funext fun h => ?_)) hm6
        rw [HTk.out, wantedB_snoc]
        by_cases e : h = s
        · rw [if_pos e, decide_eq_true e.symm, Bool.or_true, if_pos rfl]
        · rw [if_neg e, decide_eq_false (fun k => e k.symm), Bool.or_false]⟩
      have HR6 : Aside0 (Kd.R kPr TPr w6 W1.heap.size Yes (.slice (some ad1) ps.length d) ps) := ⟨Wp.R_kept_ty (Kd.R_below HRm.out hb4) (Wp.kept_grown hg6) (fun k cells hk e => by
        injection e with e
        subst e
        obtain ⟨es, cl, hmm, _⟩ := HMm.out.below hb4
        rw [hmm] at hk; cases hk)⟩
      have hnew := heap_alloc_new wr (.cells #[.int .i64 s, .int .i64 x] 88)
      clear hb4 hm6 hg6 HMm HRm HBm2
      go_wp2_with fail
      go_roundg (ps.length - (m + 1))
      case measure => have := HK.out; have := HHm.out; omega
      case rel =>
        have h7 := HHm.out
        have h8 := HPb.out
        have hw : wrap64 ((m : Int) + 1) = ((m + 1 : Nat) : Int) := by rw [IntWalk.wrap64_in _ (by omega)]; omega
        exact ⟨m + 1, by rw [hw], ⟨by omega⟩, HM6, HB6, HR6⟩
    · have hmb : decide (m < ps.length) = false := decide_eq_false hm
      have HMw : Aside0 (HasMap kvI wr bm (fun h => if wantedB ps h = true then some (.bool true) else none)) := ⟨by
        have := HMm.out
        rwa [List.take_of_length_le (by omega)] at this⟩
      have h2 := (HBm2.out.block _ (blk_lt HH.out.1)).trans HH.out.1
      have a3 := blk_cell h2 3
      have HB7 := HBm2
      have hmm := @run_makeMap Tryz.prog
      have a3' : ∀ o1 o2 : Obj, ((wr.alloc o1).alloc o2).cell? ⟨w.heap.size, 3, none⟩ = some (.slice A3 P.length c3) := fun o1 o2 =>
        blk_cell ((Below.heap_alloc _ _ _ (by rw [World.size_alloc]; have := blk_lt h2; omega)).trans ((Below.heap_alloc _ _ _ (blk_lt h2)).trans h2)) 3
      clear HMm HBm2 HRm h2 a3
      go_wp2_with fail
      clear hmm a3'
      obtain ⟨W8, hW8⟩ : ∃ W8, W8 = ((wr.alloc (.map #[] 0)).alloc (.cells #[.map (some wr.heap.size)] 132)) := ⟨_, rfl⟩
      rw [← hW8]
      have sz : (wr.alloc (.map #[] 0)).heap.size = wr.heap.size + 1 := by simp
      have m8 : W8.heap[wr.heap.size]? = some (.map #[] 0) := by rw [hW8]; exact (Below.heap_alloc _ _ _ (by omega)).trans (heap_alloc_new _ _)
      have x8 : W8.heap[wr.heap.size + 1]? = some (.cells #[.map (some wr.heap.size)] 132 (0, 0)) := by rw [hW8, ← sz]; exact heap_alloc_new _ _
      have hb8 : Below wr.heap.size wr W8 := by rw [hW8]; exact ((Below.refl _ _).alloc (Nat.le_refl _) _).alloc (by omega) _
      have HM8 : Aside0 (HasMap kvI W8 bm (fun h => if wantedB ps h = true then some (.bool true) else none)) := ⟨HMw.out.below hb8⟩
      have HS8 : Aside0 (HasMap kvI W8 wr.heap.size (sharedF (cnt P (wantedB ps) 0))) := ⟨by rw [show cnt P (wantedB ps) 0 = 0 from rfl, sharedF_zero]; exact HasMap.new W8 W8 m8⟩
      have HX8 := Aside0.mk x8
      have HB8 : Aside0 (Below W1.heap.size W1 W8) := ⟨HB7.out.trans (hb8.mono HB7.out.size)⟩
      have HSz : Aside0 (W1.heap.size ≤ wr.heap.size ∧ bm < wr.heap.size) := ⟨HB7.out.size, HMw.out.lt⟩
      clear hW8 sz m8 x8 hb8 HMw HB7
      generalize wr.heap.size + 1 = bx at HX8 ⊢
      generalize wr.heap.size = bs at HS8 HSz HX8 ⊢
      clear wr
      go_loopg [49] P.length (fun gg v49 wr => ∃ i : Nat, v49 = .int .i64 i ∧ Aside0 (i + gg = P.length) ∧ Aside0 (HasMap kvI wr bm (fun h => if wantedB ps h = true then some (.bool true) else none)) ∧ Aside0 (HasMap kvI wr bs (sharedF (cnt P (wantedB ps) i))) ∧
          Aside0 (wr.heap[bx]? = some (.cells #[.map (some bs)] 132 (0, 0))) ∧ Aside0 (Below W1.heap.size W1 wr))
      case atStart => exact ⟨0, rfl, ⟨by omega⟩, HM8, HS8, HX8, HB8⟩
      case round =>
        clear HM8 HS8 HX8 HB8 W8
        obtain ⟨i, rfl, HK2, HMw, HSh, HX, HB⟩ := hrel
        by_cases hi : i < P.length
        · have hib : decide (i < P.length) = true := decide_eq_true hi
          have HCp := Aside0.mk (Kd.C_below HCo.out.posts (HB1.out.trans (HB.out.mono HB1.out.size)))
          obtain ⟨ad3, e3, p0, p1, p2⟩ := Ref.at_T134 HCp.out (i : Int) (by omega) (by omega)
          subst e3
          rw [rd_po hi, Int.toNat_natCast] at p0 p1 p2
          rw [HP0.out _ (List.getElem_mem hi)] at p1
          have hha : hashAt P i = P[i].f0 := by unfold hashAt; rw [List.getD_eq_getElem?_getD, List.getElem?_eq_getElem hi]; rfl
          have HHa := Aside0.mk hha
          clear hha
          generalize P[i].f0 = hsh at p0 HHa
          generalize P[i].f2 = pat at p2
          have HHi := Aside0.mk hi
          go_wp2_with fail
          obtain ⟨W9, hW9⟩ : ∃ W9, W9 = wr.alloc (.cells #[.int .i64 hsh, .int .i64 0, .int .i64 pat] TP) := ⟨_, rfl⟩
          rw [← hW9]
          have hnew := heap_alloc_new wr (.cells #[.int .i64 hsh, .int .i64 0, .int .i64 pat] TP)
          rw [← hW9] at hnew
          have hb9 : Below wr.heap.size wr W9 := by rw [hW9]; exact (Below.refl _ _).alloc (Nat.le_refl _) _
          have t0 := blk_cell hnew 0
          have t1 := blk_cell hnew 1
          have HB9 : Aside0 (Below W1.heap.size W1 W9) := ⟨HB.out.trans (hb9.mono HB.out.size)⟩
          have HX9 : Aside0 (W9.heap[bx]? = some (.cells #[.map (some bs)] 132 (0, 0))) := ⟨(hb9.block _ (blk_lt HX.out)).trans HX.out⟩
          have HMw9 := Aside0.mk (HMw.out.below hb9)
          have HSh9 := Aside0.mk (HSh.out.below hb9)
          have cx := blk_cell HX9.out 0
          clear hW9 p0 p1 p2
          have hl1 : ∀ q, (Instr.lookup 131 (.map (some bm)) (.int .i64 hsh) false).run Tryz.prog (W9.drewN q) = .ok (.bool (wantedB ps hsh)) (W9.drewN q) := fun q => by
            have := (HMw9.out.below (pw_below_drewN (Below.refl _ _) q)).look Tryz.underlying131 keyI (z := .bool false) (fun w => by rfl) hsh
            refine this.trans ?_
            cases wantedB ps hsh <;> rfl
          have hl2 : ∀ q, (Instr.lookup 132 (.map (some bs)) (.int .i64 0) false).run Tryz.prog (W9.drewN q) = .ok (.int .i64 (cnt P (wantedB ps) i : Nat)) (W9.drewN q) := fun q => by
            have := (HSh9.out.below (pw_below_drewN (Below.refl _ _) q)).look Tryz.underlying132 keyI (z := .int .i64 0) (fun w => by rfl) 0
            rwa [sharedF_get] at this
          have HF : Aside0 (cnt P (wantedB ps) (i + 1) = cnt P (wantedB ps) i + (if (firstAt P i && wantedB ps (hashAt P i)) = true then 1 else 0)) := ⟨rfl⟩
          rw [HHa.out] at HF
          have HN : Aside0 (cnt P (wantedB ps) i ≤ i) := ⟨cnt_le _ _ _⟩
          generalize cnt P (wantedB ps) i = n0 at HF HN HSh9 hl2
          have hn0 : n0 ≤ 100000 := by have := HN.out; have := HPl.out; omega
          have hi9 : i ≤ 100000 := by have := HPl.out; omega
          have HSt : Aside0 (∀ q, ∃ w6, (Instr.mapUpdate 132 (.map (some bs)) (.int .i64 0) (.int .i64 ((n0 : Int) + 1))).run Tryz.prog (W9.drewN q) = .ok () w6 ∧ HasMap kvI w6 bs (sharedF (n0 + 1)) ∧ (W9.drewN q).grownBy w6 (some bs)) := ⟨fun q => by
            obtain ⟨w6, hrun, hm6, hg6⟩ := (HSh9.out.below (pw_below_drewN (Below.refl _ _) q)).store Tryz.underlying132 keyI 0 (.int .i64 ((n0 + 1 : Nat) : Int))
            rw [sharedF_succ] at hm6
            exact ⟨w6, hrun, hm6, hg6⟩⟩
          have HQ : Aside0 (∀ q, HasMap kvI (W9.drewN q) bm (fun h => if wantedB ps h = true then some (.bool true) else none) ∧ HasMap kvI (W9.drewN q) bs (sharedF n0) ∧ (W9.drewN q).heap[bx]? = some (.cells #[.map (some bs)] 132 (0, 0)) ∧ Below W1.heap.size W1 (W9.drewN q)) :=
            ⟨fun q => ⟨HMw9.out.below (pw_below_drewN (Below.refl _ _) q), HSh9.out.below (pw_below_drewN (Below.refl _ _) q), HX9.out, pw_below_drewN HB9.out q⟩⟩
          have HQ2 : Aside0 (∀ q w6, (W9.drewN q).grownBy w6 (some bs) → HasMap kvI w6 bm (fun h => if wantedB ps h = true then some (.bool true) else none) ∧ w6.heap[bx]? = some (.cells #[.map (some bs)] 132 (0, 0)) ∧ Below W1.heap.size W1 w6) := ⟨fun q w6 hg => by
            obtain ⟨a1, a2, a3, a4⟩ := HQ.out q
            refine ⟨a1.kept (hg.block bm a1.lt (fun e => by injection e with e; have := HSz.out; omega)), blk_grown a3 hg (fun e => ?_), a4.grown hg (Nat.le_trans HSz.out.1 (Nat.le_of_lt a2.lt)) (fun q hq => by injection hq with hq; have := HSz.out; omega)⟩
            injection e with e
            obtain ⟨es, cl, hm, _⟩ := a2
            rw [← e, a3] at hm; cases hm⟩
          have hbi : ((i : Int) == 0) = decide (i = 0) := by rw [Bool.eq_iff_iff, beq_iff_eq, decide_eq_true_eq]; omega
          have HCp9 := Aside0.mk (Kd.C_below HCp.out hb9)
          have cb := blk_cell (blk_below HH.out.1 HB9.out) 3
          clear HMw9 HSh9 HB9 HSh HMw HX HB HCp
          by_cases hz : i = 0
          · have HFi : Aside0 (firstAt P i = true) := ⟨by unfold firstAt; rw [decide_eq_true hz]; rfl⟩
            rw [decide_eq_true hz] at hbi
            clear hz
            cases hwb : wantedB ps hsh with
            | true =>
              rw [hwb, HFi.out] at HF
              rw [hwb] at hl1
              clear hwb
              obtain ⟨wf, hwf⟩ : ∃ wf : Nat → World, ∀ q, (Instr.mapUpdate 132 (.map (some bs)) (.int .i64 0) (.int .i64 ((n0 : Int) + 1))).run Tryz.prog (W9.drewN q) = .ok () (wf q) ∧ HasMap kvI (wf q) bs (sharedF (n0 + 1)) ∧ (W9.drewN q).grownBy (wf q) (some bs) := ⟨fun q => (HSt.out q).choose, fun q => (HSt.out q).choose_spec⟩
              have HR6 : Aside0 (∀ q, HasMap kvI (wf q) bs (sharedF (n0 + 1)) ∧ HasMap kvI (wf q) bm (fun h => if wantedB ps h = true then some (.bool true) else none) ∧ (wf q).heap[bx]? = some (.cells #[.map (some bs)] 132 (0, 0)) ∧ Below W1.heap.size W1 (wf q)) := ⟨fun q => ⟨(hwf q).2.1, HQ2.out q _ (hwf q).2.2⟩⟩
              have hrun := fun q => (hwf q).1
              clear hwf HSt HQ HQ2
              go_quiet (fail)
              go_wp2_with fail
              go_roundg (P.length - (i + 1))
              case measure => have := HK2.out; have := HHi.out; omega
              case rel =>
                obtain ⟨a1, a2, a3, a4⟩ := HR6.out nq
                exact ⟨i + 1, by go_num, ⟨by have := HK2.out; have := HHi.out; omega⟩, ⟨a2⟩, ⟨by rw [HF.out]; exact a1⟩, ⟨a3⟩, ⟨a4⟩⟩
            | false =>
              rw [hwb, HFi.out] at HF
              rw [hwb] at hl1
              clear hwb
              go_quiet (fail)
              go_wp2_with fail
              go_roundg (P.length - (i + 1))
              case measure => have := HK2.out; have := HHi.out; omega
              case rel =>
                obtain ⟨a1, a2, a3, a4⟩ := HQ.out nq
                exact ⟨i + 1, by go_num, ⟨by have := HK2.out; have := HHi.out; omega⟩, ⟨a1⟩, ⟨by rw [HF.out]; exact a2⟩, ⟨a3⟩, ⟨a4⟩⟩
          · obtain ⟨j, hj⟩ : ∃ j, i = j + 1 := ⟨i - 1, by omega⟩
            have hjl : j < P.length := by omega
            obtain ⟨ad4, e4, p0, p1, p2⟩ := Ref.at_T134 HCp9.out (j : Int) (by omega) (by omega)
            injection e4 with e4
            subst e4
            rw [rd_po hjl, Int.toNat_natCast] at p0 p1 p2
            rw [HP0.out _ (List.getElem_mem hjl)] at p1
            have hhj : hashAt P j = P[j].f0 := by unfold hashAt; rw [List.getD_eq_getElem?_getD, List.getElem?_eq_getElem hjl]; rfl
            have HFj : Aside0 (firstAt P i = !decide (P[j].f0 = hsh)) := ⟨by unfold firstAt; rw [decide_eq_false hz, Bool.false_or, HHa.out, hj, Nat.add_sub_cancel, hhj]⟩
            have hne : (P[j].f0 != hsh) = !decide (P[j].f0 = hsh) := by
              by_cases e : P[j].f0 = hsh
              · rw [decide_eq_true e, e]; simp
              · rw [decide_eq_false e]; simpa using e
            generalize P[j].f0 = hsj at p0 HFj hne
            clear p2 hhj
            rw [decide_eq_false hz] at hbi
            have hjb : decide (j < P.length) = true := decide_eq_true hjl
            have hs1 : IntKind.i64.wrap ((i : Int) - 1) = (j : Int) := by rw [IntWalk.i64_in _ (by omega)]; omega
            have hs3 : (i : Int) - 1 = (j : Int) := by omega
            have HHj := Aside0.mk hj
            clear hz hj
            generalize decide (hsj = hsh) = bd at HFj hne
            cases bd with
            | true =>
              rw [HFj.out] at HF
              simp only [Bool.not_true] at hne HF
              go_quiet (fail)
              go_wp2_with fail
              go_roundg (P.length - (i + 1))
              case measure => have := HK2.out; have := HHi.out; omega
              case rel =>
                obtain ⟨a1, a2, a3, a4⟩ := HQ.out nq
                exact ⟨i + 1, by go_num, ⟨by have := HK2.out; have := HHi.out; omega⟩, ⟨a1⟩, ⟨by rw [HF.out]; exact a2⟩, ⟨a3⟩, ⟨a4⟩⟩
            | false =>
              simp only [Bool.not_false] at hne HFj
              cases hwb : wantedB ps hsh with
              | true =>
                rw [hwb, HFj.out] at HF
                rw [hwb] at hl1
                clear hwb
                obtain ⟨wf, hwf⟩ : ∃ wf : Nat → World, ∀ q, (Instr.mapUpdate 132 (.map (some bs)) (.int .i64 0) (.int .i64 ((n0 : Int) + 1))).run Tryz.prog (W9.drewN q) = .ok () (wf q) ∧ HasMap kvI (wf q) bs (sharedF (n0 + 1)) ∧ (W9.drewN q).grownBy (wf q) (some bs) := ⟨fun q => (HSt.out q).choose, fun q => (HSt.out q).choose_spec⟩
                have HR6 : Aside0 (∀ q, HasMap kvI (wf q) bs (sharedF (n0 + 1)) ∧ HasMap kvI (wf q) bm (fun h => if wantedB ps h = true then some (.bool true) else none) ∧ (wf q).heap[bx]? = some (.cells #[.map (some bs)] 132 (0, 0)) ∧ Below W1.heap.size W1 (wf q)) := ⟨fun q => ⟨(hwf q).2.1, HQ2.out q _ (hwf q).2.2⟩⟩
                have hrun := fun q => (hwf q).1
                clear hwf HSt HQ HQ2
                go_quiet (fail)
                go_wp2_with fail
                go_roundg (P.length - (i + 1))
                case measure => have := HK2.out; have := HHi.out; omega
                case rel =>
                  obtain ⟨a1, a2, a3, a4⟩ := HR6.out nq
                  exact ⟨i + 1, by go_num, ⟨by have := HK2.out; have := HHi.out; omega⟩, ⟨a2⟩, ⟨by rw [HF.out]; exact a1⟩, ⟨a3⟩, ⟨a4⟩⟩
              | false =>
                rw [hwb, HFj.out] at HF
                rw [hwb] at hl1
                clear hwb
                go_quiet (fail)
                go_wp2_with fail
                go_roundg (P.length - (i + 1))
                case measure => have := HK2.out; have := HHi.out; omega
                case rel =>
                  obtain ⟨a1, a2, a3, a4⟩ := HQ.out nq
                  exact ⟨i + 1, by go_num, ⟨by have := HK2.out; have := HHi.out; omega⟩, ⟨a1⟩, ⟨by rw [HF.out]; exact a2⟩, ⟨a3⟩, ⟨a4⟩⟩
        · have hib : decide (i < P.length) = false := decide_eq_false hi
          have HE : Aside0 (i = P.length) := ⟨by have := HK2.out; omega⟩
          rw [HE.out] at HSh
          have cb := blk_cell (blk_below HH.out.1 HB.out) 2
          have cx := blk_cell HX.out 0
          have hl2 : (Instr.lookup 132 (.map (some bs)) (.int .i64 0) false).run Tryz.prog wr = .ok (.int .i64 (cnt P (wantedB ps) P.length : Nat)) wr := by
            have := HSh.out.look Tryz.underlying132 keyI (z := .int .i64 0) (fun w => by rfl) 0
            rwa [sharedF_get] at this
          have HRes : Aside0 (nearL (cnt P (wantedB (prS k wi (txt b.f1))) P.length) = nearL (cnt P (wantedB ps) P.length)) := ⟨by rw [HPs.out]⟩
          generalize cnt P (wantedB ps) P.length = nn at hl2 HRes HSh
          have HWl := Aside0.mk (And.intro cx hl2)
          clear hi HSh HMw HX HE HPs cx hl2 HCo HC
          obtain ⟨W9, hW9⟩ : ∃ W9, W9 = wr := ⟨_, rfl⟩
          rw [← hW9] at HB cb HWl
          rw [← hW9]
          clear hW9
          clear wr
          go_wp2_with fail
          go_loopg [15, 96] 1 (fun gg v15 v96 wr => ∃ i : Nat, v96 = .int .i64 i ∧ Aside0 (i + gg = 1) ∧ Aside0 (i = 0 → v15 = .slice none 0 0 ∧ wr = W9) ∧ Aside0 (i = 1 → Kd.R (Kd.int .i64) 3 wr W1.heap.size Yes v15 (nearL nn)) ∧ Aside0 (Below W1.heap.size W1 wr))
          case atStart => exact ⟨0, rfl, ⟨rfl⟩, ⟨fun _ => ⟨rfl, rfl⟩⟩, ⟨fun h => by cases h⟩, HB⟩
          case round =>
            obtain ⟨i, rfl, HK3, H0, H1, HB3⟩ := hrel
            have hii : i = 0 ∨ i = 1 := by have := HK3.out; omega
            rcases hii with rfl | rfl
            · obtain ⟨rfl, rfl⟩ := H0.out rfl
              obtain ⟨cx, hl2⟩ := HWl.out
              clear H0 H1
              by_cases hp : 0 < nn
              · have hpb : decide (0 < nn) = true := decide_eq_true hp
                have hpb2 : decide ((0 : Int) < (nn : Int)) = true := by simpa using hp
                have HNl : Aside0 (nearL nn = [0]) := ⟨if_pos hp⟩
                clear hp
                go_wp2_with ((with_reducible refine gate_builtin (b := .append) (xs := #[.tmp 103, .tmp 105]) rfl ?_); at_builtin; refine Kd.R_append (Kd.int .i64) (w0 := W1) W1.heap.size rfl (.tmp 103) (.tmp 105) 71 3 (.int .i64 0) 8 rfl Tryz.underlying71 infoI rfl (by decide) (by omega) (.slice none 0 0) [] 0 [.int .i64 0] (fun _ => True) (fun _ => False) rfl (by rfl) ?aP (fun _ hk => hk.elim) ?aF ?aO ?aB ?aS ?aL ?_)
                case aP => rfl
                case aF => exact fun _ _ => trivial
                case aO => exact Kd.R_nil _ _ _ _ _
                case aB => exact HB3.out
                case aS => exact HB3.out.size
                case aL => decide
                intro v1 w5 ho hb hg hat
                have HO5 : Aside0 (Kd.R (Kd.int .i64) 3 w5 W1.heap.size Yes v1 (nearL nn)) := ⟨by rw [HNl.out]; exact ho⟩
                have HB6 := Aside0.mk hb
                clear ho hb hg hat
                go_wp2_with fail
                go_roundg 0
                case measure => have := HK3.out; omega
                case rel => exact ⟨1, by rfl, ⟨rfl⟩, ⟨fun h => by cases h⟩, ⟨fun _ => HO5.out⟩, HB6⟩
              · have hpb : decide (0 < nn) = false := decide_eq_false hp
                have hpb2 : decide ((0 : Int) < (nn : Int)) = false := by simpa using hp
                have HNl : Aside0 (nearL nn = []) := ⟨if_neg hp⟩
                clear hp
                go_wp2_with fail
                go_roundg 0
                case measure => have := HK3.out; omega
                case rel => exact ⟨1, by rfl, ⟨rfl⟩, ⟨fun h => by cases h⟩, ⟨fun _ => by rw [HNl.out]; exact Kd.R_nil _ _ _ _ _⟩, HB3⟩
            · have HR := Aside0.mk (H1.out rfl)
              obtain ⟨A4, c4, hv, hc4, hC4⟩ := Kd.R_reads HR.out
              have hle : (nearL nn).length ≤ 1 := by unfold nearL; split <;> simp
              subst hv
              have HC4 := Aside0.mk hC4
              have Hc4 := Aside0.mk hc4
              have HBf : Aside0 (Below w.heap.size w wr) := ⟨HB1.out.trans (HB3.out.mono HB1.out.size)⟩
              clear H0 H1 HR hC4 hc4
              go_wp2_with fail
              (with_reducible refine (sortstable_small _ hle A4 c4 _ _).mono ?_)
              rintro e w6 ⟨rfl, hw6⟩
              subst hw6
              go_wp2_with fail
              go_ret2
              rw [HRes.out]
              exact ⟨A4, c4, rfl, Hc4.out, HC4.out, HBf.out⟩
end Go.Proofs.YtbakoigejihnaaaGreatDoor.Ps
end
