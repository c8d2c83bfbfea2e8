/- The functions of package automaton, walked. Conditions: none. -/
import Derived.Test.YtbakoigejihnaaaGreatDoorProg
import Derived.Test.YtbakoigejihnaaaGreatDoorMMem
import Derived.Test.YtbakoigejihnaaaGreatDoorVLast
import Derived.Test.YtbakoigejihnaaaGreatDoorVTab
import Derived.Test.YtbakoigejihnaaaGreatDoorVMore
import Derived.Deep.LoopGhost
import Derived.Deep.QuietTactic
import Derived.BigQuiet
import Derived.Deep.DeepCutAuto
import Derived.Deep.CutBlock
import Derived.Outline
import Derived.Deep.AppendLies
import Derived.StillTailTactics
import Derived.BigRegion
import Derived.Deep.RegionLaw
import Derived.RegionTactic
import Derived.Test.YtbakoigejihnaaaGreatDoorMSh
import Derived.Test.YtbakoigejihnaaaGreatDoorMSam
section
set_option linter.unusedSectionVars false
set_option linter.unusedSimpArgs false
set_option linter.unusedVariables false
namespace Go.Proofs.YtbakoigejihnaaaGreatDoor.Wk
open Go.RowKit Go.AutoMap Go.Proofs.YtbakoigejihnaaaGreatDoorW.PrintWords Go.Proofs.YtbakoigejihnaaaGreatDoorW.PrintLast Go.Proofs.YtbakoigejihnaaaGreatDoorW.PrintMore
open Sam (Auto)

theorem zero3 (w : World) : (zeroValue 3).run Tryz.prog w = .ok (.int .i64 0) w := by kernel_rfl

/-- the words of a text: a row of pairs -/
def kW : Kd (ByteArray × Int) := Kd.pair Kd.string (Kd.int .i64)
theorem kW_open {w : World} {x : ByteArray × Int} {cs : List Value} (h : kW.K w x cs) : cs = [.string x.1, .int .i64 x.2] := by
  obtain ⟨_, _, rfl, rfl, rfl⟩ := h
  exact rfl
def wd (T : List (ByteArray × Int)) (i : Nat) : ByteArray × Int := T.getD i (⟨#[]⟩, 0)
theorem at_W {w : World} {A : Option Addr} {n : Nat} {T : List (ByteArray × Int)} (h : Kd.C kW w A n T) {i : Nat} (hi : i < n) :
    ∃ ad, A = some ad ∧ w.cell? (ad.add (i * 2)) = some (.string (wd T i).1) ∧ w.cell? ⟨(ad.add (i * 2)).block, (ad.add (i * 2)).off + 1, none⟩ = some (.int .i64 (wd T i).2) := by
  obtain ⟨ad, c, e, _, hK, hc0⟩ := Kd.C_get h (⟨#[]⟩, 0) (i : Int) (by omega) (by omega)
  have hc : ∀ j u, c[j]? = some u → w.cell? (ad.add ((i : Int).toNat * 2 + j)) = some u := hc0
  obtain rfl := kW_open hK
  rw [Int.toNat_natCast] at hc
  exact ⟨ad, e, hc 0 _ rfl, by rw [← add_field _ _ 1 (by omega)]; exact hc 1 _ rfl⟩

end Go.Proofs.YtbakoigejihnaaaGreatDoor.Wk
end
section
set_option linter.unusedSectionVars false
set_option linter.unusedSimpArgs false
set_option linter.unusedVariables false
namespace Go.Proofs.YtbakoigejihnaaaGreatDoor.Wk
open Go.RowKit Go.AutoMap Go.Proofs.YtbakoigejihnaaaGreatDoorW.PrintWords Go.Proofs.YtbakoigejihnaaaGreatDoorW.PrintLast Go.Proofs.YtbakoigejihnaaaGreatDoorW.PrintMore
open Sam (Auto upd fill redirect)

theorem info_state : (Tryz.prog.info? 66).map (fun i => (i.zero, i.size, i.bytes)) = some (some (.agg #[.int .i64 0, .int .i64 0, .int .i64 0, .int .i64 0, .map none]), 5, 40) := by kernel_rfl

theorem newCells_one (long : Nat) (link : Int) (count fin mnew : Nat) : ∀ u ∈ newCells long link count fin mnew, u.oneCell' = true := by
  intro u hu
  simp only [newCells, List.mem_cons, List.not_mem_nil, or_false] at hu
  rcases hu with rfl | rfl | rfl | rfl | rfl <;> rfl

theorem redirect_m (c : ByteArray) (q short : Nat) : ∀ (k : Nat) (A : Auto ByteArray) (p : Int), (redirect c q short k A p).m = A.m := by
  intro k
  induction k with
  | zero => intro A p; rfl
  | succ k ih =>
    intro A p
    simp only [redirect]
    split
    · rfl
    · split
      · rw [ih]; rfl
      · rfl
theorem split_m (A : Auto ByteArray) (p q : Nat) (c : ByteArray) : (A.split p q c).m = A.m + 1 := by unfold Auto.split; rw [redirect_m]; rfl

theorem run_len_map {P : Program} {w : World} {t kt et b clock : Nat} {es : Array MapEntry} (ht : P.underlying t = some (.map kt et)) (hb : w.heap[b]? = some (.map es clock)) (ty : TypeId) :
    (Builtin.len_ #[t] ty #[.map (some b)]).run P w = .ok (.int .i64 es.size) w := by
  simp [Builtin.len_, run_underlying ht, MapKept.run_getObj_map hb, Result.andThen, goInt]
theorem run_makeMap_some {w : World} (n : Nat) : (Instr.makeMap 64 (some (.int .i64 n))).run Tryz.prog w = .ok (.map (some w.heap.size)) (w.alloc (.map #[] 0)) := by
  simp [Instr.makeMap, run_underlying Tryz.underlying64, Result.andThen, asInt, asIntOf]

set_option maxHeartbeats 4000000 in
set_option maxRecDepth 100000 in
theorem split_calls (w : World) (base ba : Nat) (B : Auto ByteArray) (N p q : Nat) (c : ByteArray) (h : AutoMem 66 69 w base ba B) (hbase : base ≤ w.heap.size) (hwf : WF B N) (hp : p < B.m) (hnext : B.next p c = some q) (hq : B.long q ≠ B.long p + 1) (hN : N ≤ 10000) (hm : B.m ≤ 30001) :
    Calls Tryz.prog 57 #[.pointer (some ⟨ba, 0, none⟩), .int .i64 (p : Nat), .int .i64 (q : Nat), .string c] w fun e' w' => e' = .returned (.int .i64 (B.m : Nat)) ∧ AutoMem 66 69 w' base ba (B.split p q c) ∧ Below base w w' := by
  obtain ⟨bs, cap, xs, mb, h⟩ := h
  have hqn := hwf.next _ _ _ hp hnext
  have hqm := hqn.2.1
  obtain ⟨hmq, es, clock, hsrc, L, hE, hf⟩ := h.maps q hqm
  have hlm := run_len_map (P := Tryz.prog) Tryz.underlying64 hsrc
  have hmk := fun w => @run_makeMap_some w es.size
  have hbm := h.map_lt hqm
  have hrg := run_range_map (P := Tryz.prog) (w.alloc (.map #[] 0)) 64 9 3 (mb q) es clock Tryz.underlying64 (by rw [heap_alloc_old _ _ hbm]; exact hsrc)
  have c0 := h.cell0
  have hba := h.head_lt
  have hbs := h.block.2
  have cnq := h.cNext hqm
  have HS := Aside0.mk hsrc
  have HE := Aside0.mk hE
  have HF := Aside0.mk hf
  have H := Aside0.mk h
  have HW := Aside0.mk hwf
  have HQ := Aside0.mk hq
  have HNx := Aside0.mk hnext
  clear h hwf hq hnext hE hf hsrc
  go_enter Tryz.func57, Tryz.ntmps57
  go_wp2_with fail
  clear hlm hmk hrg c0 cnq
  go_loopg [12] L.length (fun kq v12 w' => ∃ D : List (ByteArray × Nat × Nat), Aside0 (D.length + kq = L.length) ∧ Aside0 (Ranged es clock L (mb q) w.heap.size (w.heap.size + 1) D w') ∧ Aside0 (Below w.heap.size w w'))
  case atStart =>
    refine ⟨[], ⟨by simp⟩, ⟨⟨?_, ?_, ?_, by simp, by simp⟩⟩, ⟨((Below.refl _ _).alloc (Nat.le_refl _) _).alloc (by simp) _⟩⟩
    · rw [heap_alloc_old _ _ (by simp; omega), heap_alloc_old _ _ hbm]; exact HS.out
    · have := heap_alloc_new (w.alloc (.map #[] 0)) (.mapIter (some (mb q)) clock #[] clock)
      rwa [show (w.alloc (.map #[] 0)).heap.size = w.heap.size + 1 from by simp] at this
    · refine ⟨#[], 0, ?_, mapIs_empty⟩
      rw [heap_alloc_old _ _ (by simp)]
      exact heap_alloc_new _ _
  case round =>
    obtain ⟨D, HK, HRg, HB⟩ := hrel
    rcases HRg.out.step (P := Tryz.prog) HE.out 0 Tryz.underlying64 Tryz.underlying9 (by omega) (by omega) (by omega) with ⟨hall, hrun⟩ | ⟨x, w1, w2, hx, hlen, hrun, hent, hup, hrg2, hb2⟩
    · have HA := Aside0.mk hall
      have hR := H.out.below HB.out
      have c0 := hR.cell0
      have cpl := hR.cLong hp
      have cql := hR.cLink hqm
      have cqf := hR.cFin hqm
      have hba' := hR.head_lt
      have hbs' := hR.block.2
      have hpb := HW.out.long p hp
      have HR := Aside0.mk hR
      clear hall hR hba hbs
      go_wp2_with fail
      go_region
      have ffq := HR.out.free (q * 5 + 1)
      go_wp2_with fail
      clear c0 cpl cql cqf ffq
      obtain ⟨es1, clock1, hm1, hm1f⟩ := HRg.out.all HE.out HA.out
      have HNL : Aside0 ((giveOf L) = B.next q) := ⟨funext fun s => (HF.out s).symm⟩
      have hwlt : w.heap.size < wr.heap.size := (Array.getElem?_eq_some_iff.1 hm1).1
      generalize hW : ((wr.setCell ⟨bs, q * 5 + 1, none⟩ (Value.int IntKind.i64 ↑B.m)).alloc (Obj.cells #[Value.int IntKind.i64 (↑(B.long p) + 1), Value.int IntKind.i64 (B.link q), Value.int IntKind.i64 0, Value.int IntKind.i64 ↑(B.fin q), Value.map (some w.heap.size)] 66)).drew = W
      have hsz : W.heap.size = wr.heap.size + 1 := by rw [← hW]; simp
      have hR5 : AutoRep 66 69 W base ba (B.setLink q B.m) bs cap (xs.set (q * 5 + 1) (.int .i64 (B.m : Nat))) mb := by
        rw [← hW]
        exact ((HR.out.setLink hqm B.m).below ((Below.refl _ _).alloc (Nat.le_refl _) _)).drew
      have hpart : W.heap[wr.heap.size]? = some (.cells (newCells (B.long p + 1) (B.link q) 0 (B.fin q) w.heap.size).toArray 66 (0, 0)) := by
        rw [← hW]
        have hh := heap_alloc_new (wr.setCell ⟨bs, q * 5 + 1, none⟩ (Value.int IntKind.i64 ↑B.m)) (Obj.cells #[Value.int IntKind.i64 (↑(B.long p) + 1), Value.int IntKind.i64 (B.link q), Value.int IntKind.i64 0, Value.int IntKind.i64 ↑(B.fin q), Value.map (some w.heap.size)] 66)
        rw [show (wr.setCell ⟨bs, q * 5 + 1, none⟩ (Value.int IntKind.i64 ↑B.m)).heap.size = wr.heap.size from by simp] at hh
        exact hh
      have hmapW : W.heap[w.heap.size]? = some (.map es1 clock1) := by
        rw [← hW]
        show ((wr.setCell ⟨bs, q * 5 + 1, none⟩ (Value.int IntKind.i64 ↑B.m)).alloc _).heap[w.heap.size]? = _
        rw [heap_alloc_old _ _ (by simp; exact hwlt), Below.heap_setCell _ _ _ _ (by simp only; have := H.out.block.2; omega)]
        exact hm1
      have hBW : Below base w W := by
        rw [← hW]
        exact (((HB.out.mono hbase).setCell (p := ⟨bs, q * 5 + 1, none⟩) H.out.block.1 _).alloc (by have := HB.out.size; simp; omega) _).drew
      have p0 : W.cell? ⟨wr.heap.size, 0, none⟩ = some (.int .i64 (↑(B.long p) + 1)) := World.news_of_block hpart 0 _ rfl
      have p1 : W.cell? ⟨wr.heap.size, 1, none⟩ = some (.int .i64 (B.link q)) := World.news_of_block hpart 1 _ rfl
      have p2 : W.cell? ⟨wr.heap.size, 2, none⟩ = some (.int .i64 0) := World.news_of_block hpart 2 _ rfl
      have p3 : W.cell? ⟨wr.heap.size, 3, none⟩ = some (.int .i64 (B.fin q)) := World.news_of_block hpart 3 _ rfl
      have p4 : W.cell? ⟨wr.heap.size, 4, none⟩ = some (.map (some w.heap.size)) := World.news_of_block hpart 4 _ rfl
      have c0 : W.cell? ⟨ba, 0, none⟩ = some (.slice (some ⟨bs, 0, none⟩) B.m cap) := hR5.cell0
      have f0 := hR5.free0
      have hbaW := hR5.head_lt
      have hwrW : wr.heap.size < W.heap.size := by omega
      have hrow := fun o => (hR5.row.alloc o).drew
      have HR5 := Aside0.mk hR5
      have HBW := Aside0.mk hBW
      have HM := Aside0.mk hmapW
      have HMf := Aside0.mk hm1f
      have HI := Aside0.mk (info_parts info_state)
      have HbW : Aside0 (base ≤ W.heap.size) := ⟨by have := HB.out.size; omega⟩
      have HwW : Aside0 (w.heap.size < W.heap.size) := ⟨by omega⟩
      clear hW hsz hR5 hBW hmapW hm1f hpart hm1 hwlt hba' hbs'
      obtain ⟨i0, hi, hz0, hz1, hz2⟩ := HI.out
      have hz0' := Aside0.mk hz0
      have hz1' := Aside0.mk hz1
      have hz2' := Aside0.mk hz2
      have hi' := Aside0.mk hi
      clear hi hz0 hz1 hz2
      have hnb : some (⟨ba, 0, none⟩ : Addr).block ≠ (Value.slice (some ⟨bs, 0, none⟩) B.m cap).ownBlock := by simp only [Value.ownBlock, ne_eq, Option.some.injEq]; exact HR5.out.ne.symm
      go_cut [75] (fun v75 w' => ∃ (g cap' : Nat) (xs' : List Value) (mb' : Nat → Nat), Aside0 (AutoRep 66 69 w' base ba ((B.setLink q B.m).add (B.long p + 1) (B.link q) 0 (B.fin q) (B.next q)) g cap' xs' mb') ∧ Aside0 (Below base w w'))
      case first =>
       go_region_law (refine step_append_lies _ rfl (.tmp 72) (.tmp 74) 67 rfl base 66 i0 (.agg #[.int .i64 0, .int .i64 0, .int .i64 0, .int .i64 0, .map none]) 5 40 Tryz.underlying67 hi'.out hz0'.out hz1'.out hz2'.out rfl (by decide) (.slice (some ⟨bs, 0, none⟩) B.m cap) B.m (xs.set (q * 5 + 1) (.int .i64 (B.m : Nat))) rfl (hrow _) ⟨W.heap.size, 0, none⟩ 1 1 (newCells (B.long p + 1) (B.link q) 0 (B.fin q) w.heap.size) rfl rfl (World.news_of_block (heap_alloc_new W (.cells (newCells (B.long p + 1) (B.link q) 0 (B.fin q) w.heap.size).toArray 66))) (newCells_one _ _ _ _ _) (by decide) (by unfold maxLen; omega) (by omega) (by have := HbW.out; simp; omega) (W.heap.size + 1) (by simp) ?_; intro g cap' w6 ho hg hat hglt; have hgw := grown_alloc_drew hg; have c6 : w6.cell? ⟨ba, 0, none⟩ = some (.slice (some ⟨bs, 0, none⟩) B.m cap) := (hgw.cell_far ⟨ba, 0, none⟩ hbaW hnb).trans c0; have f6 : w6.frozen? ⟨ba, 0, none⟩ = false := (hgw.frozen_far ⟨ba, 0, none⟩ hbaW hnb).trans f0; have HO := Aside0.mk ho; have HG := Aside0.mk hgw; clear ho hg hat hglt hgw)
       all_goals (go_wp2_with fail; go_meet; have hmap6 : w6.heap[w.heap.size]? = some (.map es1 clock1) := (HG.out.block w.heap.size HwW.out (by simp only [Value.ownBlock, ne_eq, Option.some.injEq]; have := H.out.block.2; omega)).trans HM.out; exact ⟨g, cap', _, _, ⟨HR5.out.appended (by decide) HG.out HO.out (by have := H.out.head_lt; omega) (fun i hi => by have := H.out.map_lt (i := i) hi; omega) hbase ⟨es1, clock1, hmap6, by rw [← HNL.out]; exact HMf.out⟩⟩, ⟨(HBW.out.grown HG.out HbW.out (fun k hk => by simp only [Value.ownBlock, Option.some.injEq] at hk; subst hk; exact H.out.block.1)).setCell (p := ⟨ba, 0, none⟩) H.out.ge _⟩⟩)
      case rest =>
       obtain ⟨g, cap', xs6, mb6, HR6, HB6⟩ := hcut
       clear c0 f0 p0 p1 p2 p3 p4 hrow hnb hbaW hwrW HR5 HBW HM HMf HI HbW HwW HRg HA HR hi' hz0' hz1' hz2' HB
       go_wp2_with fail
       have HLk : Aside0 (∀ s, s < ((B.setLink q B.m).add (B.long p + 1) (B.link q) 0 (B.fin q) (B.next q)).m → ((B.setLink q B.m).add (B.long p + 1) (B.link q) 0 (B.fin q) (B.next q)).long s ≤ B.long p → ((B.setLink q B.m).add (B.long p + 1) (B.link q) 0 (B.fin q) (B.next q)).link s = -1 ∨ ∃ t : Nat, ((B.setLink q B.m).add (B.long p + 1) (B.link q) 0 (B.fin q) (B.next q)).link s = t ∧ t < ((B.setLink q B.m).add (B.long p + 1) (B.link q) 0 (B.fin q) (B.next q)).m ∧ ((B.setLink q B.m).add (B.long p + 1) (B.link q) 0 (B.fin q) (B.next q)).long t < ((B.setLink q B.m).add (B.long p + 1) (B.link q) 0 (B.fin q) (B.next q)).long s) := ⟨by
         intro s hs hl
         have hs' : s < B.m + 1 := hs
         have hl' : upd B.long B.m (B.long p + 1) s ≤ B.long p := hl
         show upd (upd B.link q (B.m : Int)) B.m (B.link q) s = -1 ∨ ∃ t : Nat, upd (upd B.link q (B.m : Int)) B.m (B.link q) s = t ∧ t < B.m + 1 ∧ upd B.long B.m (B.long p + 1) t < upd B.long B.m (B.long p + 1) s
         by_cases e : s = B.m
         · subst e; rw [Sam.upd_same] at hl'; omega
         · rw [Sam.upd_ne e] at hl' ⊢
           have hsq : s ≠ q := by rintro rfl; omega
           rw [Sam.upd_ne hsq, Sam.upd_ne e]
           rcases HW.out.link s (by omega) with g1 | ⟨t, g1, g2, g3⟩
           · exact .inl g1
           · exact .inr ⟨t, g1, by omega, by rw [Sam.upd_ne (by omega)]; exact g3⟩⟩
       have HLp : Aside0 (((B.setLink q B.m).add (B.long p + 1) (B.link q) 0 (B.fin q) (B.next q)).long p ≤ B.long p) := ⟨by show upd B.long B.m (B.long p + 1) p ≤ _; rw [Sam.upd_ne (by omega)]; exact Nat.le_refl _⟩
       have HSp : Aside0 (B.split p q c = redirect c q B.m (B.long p + 2) ((B.setLink q B.m).add (B.long p + 1) (B.link q) 0 (B.fin q) (B.next q)) p) := ⟨rfl⟩
       have HM6 : Aside0 (((B.setLink q B.m).add (B.long p + 1) (B.link q) 0 (B.fin q) (B.next q)).m = B.m + 1) := ⟨rfl⟩
       generalize (B.setLink q B.m).add (B.long p + 1) (B.link q) 0 (B.fin q) (B.next q) = C0 at HR6 HLk HLp HSp HM6
       go_loopg [1] (B.long p + 2) (fun kq v1 w' => ∃ (C : Auto ByteArray) (r : Int) (g2 cap2 : Nat) (xs2 : List Value) (mb2 : Nat → Nat), v1 = .int .i64 r ∧ Aside0 (AutoRep 66 69 w' base ba C g2 cap2 xs2 mb2) ∧ Aside0 (B.split p q c = redirect c q B.m kq C r) ∧ Aside0 (C.m = B.m + 1) ∧ Aside0 (C.long = C0.long) ∧ Aside0 (C.link = C0.link) ∧ Aside0 (r = -1 ∨ ∃ s : Nat, r = s ∧ s < B.m + 1 ∧ C0.long s ≤ B.long p ∧ C0.long s + 1 < kq) ∧ Aside0 (0 < kq) ∧ Aside0 (Below base w w'))
       case atStart => exact ⟨C0, p, g, cap', xs6, mb6, rfl, HR6, HSp, HM6, ⟨rfl⟩, ⟨rfl⟩, ⟨.inr ⟨p, rfl, by omega, HLp.out, by have := HLp.out; omega⟩⟩, ⟨by omega⟩, HB6⟩
       case round =>
        obtain ⟨C, r, g2, cap2, xs2, mb2, rfl, HR, HSp2, HCm, HCl, HCk, HPr, HK2, HB2⟩ := hrel
        have HM0 := HM6
        clear HR6 HB6 HSp HM6
        have c0 := HR.out.cell0
        have hba2 := HR.out.head_lt
        have hbs2 := HR.out.block.2
        rcases HPr.out with rfl | ⟨s, rfl, hs, hsl, hsk⟩
        · go_wp2
          go_ret
          refine ⟨rfl, ?_, HB2.out⟩
          rw [HSp2.out]
          obtain ⟨k, rfl⟩ : ∃ k, gk = k + 1 := ⟨gk - 1, by have := HK2.out; omega⟩
          simp only [redirect]
          exact ⟨_, _, _, _, HR.out⟩
        · clear HPr
          obtain ⟨k1, rfl⟩ : ∃ k, gk = k + 1 := ⟨gk - 1, by have := HK2.out; omega⟩
          have hsC : s < C.m := by rw [HCm.out]; exact hs
          have cn := HR.out.cNext hsC
          have hl1 := HR.out.look (P := Tryz.prog) Tryz.underlying64 Tryz.underlying9 zero3 hsC c
          by_cases heq : C.next s c = some q
          · rw [heq] at hl1
            have heqb : ((((some q).getD 0 : Nat) : Int) == (q : Int)) = true := by simp
            have HEq := Aside0.mk heq
            clear heq
            have cl := HR.out.cLink hsC
            obtain ⟨w2, hst, hr2, hg2⟩ := HR.out.store (P := Tryz.prog) Tryz.underlying64 Tryz.underlying9 hsC c B.m
            have c02 := hr2.cell0
            have cl2 := hr2.cLink hsC
            have hR2 := Aside0.mk hr2
            have hG2 := Aside0.mk hg2
            clear hr2 hg2
            go_wp2
            go_roundg k1
            case measure => omega
            case rel =>
              refine ⟨C.setNext s c B.m, C.link s, g2, cap2, xs2, mb2, rfl, hR2, ⟨?_⟩, HCm, HCl, HCk, ⟨?_⟩, ⟨by omega⟩, ⟨?_⟩⟩
              · rw [HSp2.out, redirect, if_neg (by omega)]; simp only [Int.toNat_natCast]; rw [if_pos HEq.out]
              · rw [HCk.out]
                rcases HLk.out s (by rw [HM0.out]; exact hs) hsl with g1 | ⟨t, g1, g2, g3⟩
                · exact .inl g1
                · exact .inr ⟨t, g1, by rw [HM0.out] at g2; exact g2, by omega, by omega⟩
              · exact HB2.out.grown hG2.out (Nat.le_trans hbase HB2.out.size) (fun k hk => by cases hk; exact (HR.out.maps s hsC).1)
          · have heqb : ((((C.next s c).getD 0 : Nat) : Int) == (q : Int)) = false := by
              rw [beq_eq_false_iff_ne]
              cases hc : C.next s c with
              | none => simp; omega
              | some t => rw [hc] at heq; simp at heq ⊢; omega
            have HEq := Aside0.mk heq
            clear heq
            go_wp2
            go_ret
            refine ⟨rfl, ?_, HB2.out⟩
            rw [HSp2.out, redirect, if_neg (by omega)]; simp only [Int.toNat_natCast]; rw [if_neg HEq.out]
            exact ⟨_, _, _, _, HR.out⟩
    · have HRg2 := Aside0.mk hrg2
      have HB2 := Aside0.mk (hb2 w.heap.size (Nat.le_refl _) (by omega))
      clear hrg2 hb2
      go_wp2_with fail
      go_outline
      go_roundg (gk - 1)
      case measure => have := HK.out; omega
      case rel => exact ⟨D ++ [x], ⟨by have := HK.out; simp; omega⟩, HRg2, ⟨HB.out.trans HB2.out⟩⟩

end Go.Proofs.YtbakoigejihnaaaGreatDoor.Wk
end
section
set_option linter.unusedSectionVars false
set_option linter.unusedSimpArgs false
set_option linter.unusedVariables false
namespace Go.Proofs.YtbakoigejihnaaaGreatDoor.Wk
open Go.RowKit Go.AutoMap Go.Proofs.YtbakoigejihnaaaGreatDoorW.PrintWords Go.Proofs.YtbakoigejihnaaaGreatDoorW.PrintLast Go.Proofs.YtbakoigejihnaaaGreatDoorW.PrintMore
open Sam (Auto upd fill redirect)

theorem push_at {A B : Auto ByteArray} {last e s q k : Nat} {c : ByteArray} (hf : fill c A.m (A.long last + 2) (A.add e 0 1 e (fun _ => none)) last = fill c A.m (k + 1) B (s : Nat)) (hn : B.next s c = some q) :
    A.push last e c = if B.long q = B.long s + 1 then B.setLink A.m q else (B.split s q c).setLink A.m B.m := by
  have h1 : fill c A.m (k + 1) B ((s : Nat) : Int) = (B, ((s : Nat) : Int)) := by
    rw [fill, if_neg (by omega)]; simp only [Int.toNat_natCast, hn]
  rw [h1] at hf
  unfold Auto.push
  rw [hf]
  simp only [Int.toNat_natCast, hn]
  rw [if_neg (by omega)]

set_option maxHeartbeats 4000000 in
set_option maxRecDepth 100000 in
theorem push_calls (w : World) (base ba : Nat) (A : Auto ByteArray) (N last e : Nat) (c : ByteArray) (h : AutoMem 66 69 w base ba A) (hbase : base ≤ w.heap.size) (hwf : WF A N) (hlast : last < A.m) (hN : N < e) (he : e ≤ 10000) (hm : A.m ≤ 30000) (hpos : 0 < A.m) (h0 : A.long 0 = 0) :
    Calls Tryz.prog 26 #[.pointer (some ⟨ba, 0, none⟩), .int .i64 (last : Nat), .int .i64 (e : Nat), .string c] w fun e' w' => e' = .returned (.int .i64 (A.m : Nat)) ∧ AutoMem 66 69 w' base ba (A.push last e c) ∧ Below base w w' := by
  obtain ⟨bs, cap, xs, mb, h⟩ := h
  have hmm := @run_makeMap Tryz.prog
  have H := Aside0.mk h
  have c0 := h.cell0
  have f0 := h.free0
  have hba := h.head_lt
  have hbs := h.block.2
  have HNe := Aside0.mk h.ne
  have HW := Aside0.mk hwf
  have HPos := Aside0.mk hpos
  have H0 := Aside0.mk h0
  clear h hwf h0
  have HI := Aside0.mk (info_parts info_state)
  go_enter Tryz.func26, Tryz.ntmps26
  go_wp2_with (at_builtin; obtain ⟨i0, hi, hz0, hz1, hz2⟩ := HI.out; refine wpList_append_lies _ rfl (.tmp 24) (.tmp 29) 67 rfl base 66 i0 (.agg #[.int .i64 0, .int .i64 0, .int .i64 0, .int .i64 0, .map none]) 5 40 Tryz.underlying67 hi hz0 hz1 hz2 rfl (by decide) (.slice (some ⟨bs, 0, none⟩) A.m cap) A.m xs rfl ((H.out.row.alloc _).alloc _) ⟨w.heap.size + 1, 0, none⟩ 1 1 (newCells e 0 1 e w.heap.size) rfl rfl ?c1 (newCells_one _ _ _ _ _) (by decide) (by unfold maxLen; omega) (by omega) (by simp; omega) (w.heap.size + 2) (by simp) ?_; clear hi hz0 hz1 hz2)
  case c1 =>
    have hnb := heap_alloc_new (w.alloc (.map #[] 0)) (.cells (newCells e 0 1 e w.heap.size).toArray 66)
    rw [show (w.alloc (.map #[] 0)).heap.size = w.heap.size + 1 from by simp] at hnb
    exact World.news_of_block hnb
  intro g cap' w1 ho hg hat hglt
  have hgw : w.grownBy w1 (some bs) := ((World.grownBy_alloc w (.map #[] 0) (some bs)).trans (World.grownBy_alloc _ (.cells (newCells e 0 1 e w.heap.size).toArray 66) (some bs))).trans hg
  have hmap : w1.heap[w.heap.size]? = some (.map #[] 0) := by
    rw [hg.block w.heap.size (by simp; omega) (by simp only [Value.ownBlock, ne_eq, Option.some.injEq]; omega), heap_alloc_old _ _ (by simp)]
    exact heap_alloc_new _ _
  have hrep := H.out.appended (by decide) hgw ho (by omega) (fun i hi => by have := H.out.map_lt hi; omega) hbase ⟨_, _, hmap, mapIs_empty⟩
  have c1 : w1.cell? ⟨ba, 0, none⟩ = some (.slice (some ⟨bs, 0, none⟩) A.m cap) := by rw [hgw.cell_far ⟨ba, 0, none⟩ hba (by simp only [ne_eq, Option.some.injEq]; exact HNe.out.symm)]; exact c0
  have f1 : w1.frozen? ⟨ba, 0, none⟩ = false := by rw [hgw.frozen_far ⟨ba, 0, none⟩ hba (by simp only [ne_eq, Option.some.injEq]; exact HNe.out.symm)]; exact f0
  have HR := Aside0.mk hrep
  have HB : Aside0 (Below base w (w1.setCell ⟨ba, 0, none⟩ (.slice (some ⟨g, 0, none⟩) (A.m + 1) cap'))) := ⟨((Below.refl base w).grown hgw hbase (fun k hk => by cases hk; exact H.out.block.1)).setCell H.out.ge _⟩
  clear hrep ho hg hat hglt hgw hmap c0 f0
  go_wp2
  clear c1 f1
  have hlast' : (A.add e 0 1 e (fun _ => none)).long last ≤ N := by show upd A.long A.m e last ≤ N; rw [Sam.upd_ne (by omega)]; exact HW.out.long last hlast
  have hll : A.long last ≤ N := HW.out.long last hlast
  have HP : Aside0 (A.push last e c = (let r := fill c A.m (A.long last + 2) (A.add e 0 1 e (fun _ => none)) last
    if r.2 < 0 then r.1 else match r.1.next r.2.toNat c with
      | none => r.1
      | some q => if r.1.long q = r.1.long r.2.toNat + 1 then r.1.setLink A.m q else (r.1.split r.2.toNat q c).setLink A.m r.1.m)) := ⟨rfl⟩
  have HWF1 : Aside0 (WF (A.add e 0 1 e (fun _ => none)) e) := ⟨(HW.out.mono (by omega)).add (Nat.le_refl _) (.inr ⟨0, rfl, HPos.out, by rw [H0.out]; omega⟩) (by intro c t h; simp at h)⟩
  go_loopg [10] (A.long last + 2) (fun kq v10 w' => ∃ (B : Auto ByteArray) (p : Int) (bs' cap' : Nat) (xs' : List Value) (mb' : Nat → Nat), v10 = .int .i64 p ∧ Aside0 (AutoRep 66 69 w' base ba B bs' cap' xs' mb') ∧ Aside0 (fill c A.m (A.long last + 2) (A.add e 0 1 e (fun _ => none)) last = fill c A.m kq B p) ∧ Aside0 (WF B e) ∧ Aside0 (p = -1 ∨ ∃ s : Nat, p = s ∧ s < A.m ∧ A.long s + 1 < kq) ∧ Aside0 (0 < kq) ∧ Aside0 (B.m = A.m + 1) ∧ Aside0 (B.long = upd A.long A.m e) ∧ Aside0 (B.link = upd A.link A.m 0) ∧ Aside0 (Below base w w'))
  case atStart => exact ⟨_, _, g, cap', _, _, rfl, HR, ⟨rfl⟩, HWF1, ⟨.inr ⟨last, rfl, hlast, by omega⟩⟩, ⟨by omega⟩, ⟨rfl⟩, ⟨rfl⟩, ⟨rfl⟩, HB⟩
  case round =>
    obtain ⟨B, p, bs', cap'', xs', mb', rfl, HR', HF, HWB, HPp, HK, HBm, HBl, HBk, HB'⟩ := hrel
    have hba' := HR'.out.head_lt
    have hbs' := HR'.out.block.2
    have c0 := HR'.out.cell0
    clear HR HB HWF1 HI hmm hba hbs hlast'
    rcases HPp.out with rfl | ⟨s, rfl, hs, hsk⟩
    · clear HPp
      have HFe : Aside0 (A.push last e c = B) := ⟨by
        rw [HP.out, HF.out]
        obtain ⟨k, rfl⟩ : ∃ k, gk = k + 1 := ⟨gk - 1, by have := HK.out; omega⟩
        simp [fill]⟩
      go_wp2
      go_ret
      exact ⟨rfl, by rw [HFe.out]; exact ⟨_, _, _, _, HR'.out⟩, HB'.out⟩
    · clear HPp
      obtain ⟨k1, rfl⟩ : ∃ k, gk = k + 1 := ⟨gk - 1, by have := HK.out; omega⟩
      have hsB : s < B.m := by rw [HBm.out]; omega
      have cn := HR'.out.cNext hsB
      have hl1 := HR'.out.look_ok (P := Tryz.prog) Tryz.underlying64 Tryz.underlying9 zero3 hsB c
      cases hn : B.next s c with
      | none =>
        rw [hn] at hl1
        have Hn := Aside0.mk hn
        clear hn
        have cl := HR'.out.cLink hsB
        obtain ⟨w2, hst, hr2, hg2⟩ := HR'.out.store (P := Tryz.prog) Tryz.underlying64 Tryz.underlying9 hsB c A.m
        have c02 := hr2.cell0
        have cl2 := hr2.cLink hsB
        have hR2 := Aside0.mk hr2
        have hG2 := Aside0.mk hg2
        clear hr2 hg2
        go_wp2
        go_roundg k1
        case measure => omega
        case rel =>
          have hBs : B.long s = A.long s := by rw [HBl.out, Sam.upd_ne (by omega)]
          have hls : B.link s = A.link s := by rw [HBk.out, Sam.upd_ne (by omega)]
          refine ⟨B.setNext s c A.m, B.link s, bs', cap'', xs', mb', rfl, hR2, ⟨?_⟩, ⟨?_⟩, ⟨?_⟩, ⟨by omega⟩, HBm, HBl, HBk, ⟨?_⟩⟩
          · rw [HF.out, fill, if_neg (by omega)]; simp only [Int.toNat_natCast, Hn.out]
          · exact HWB.out.setNext HPos.out (by rw [HBm.out]; omega) (by rw [hBs, HBl.out, Sam.upd_same]; have := HW.out.long s hs; omega)
          · rw [hls]
            rcases HW.out.link s hs with g1 | ⟨t, g1, g2, g3⟩
            · exact .inl g1
            · exact .inr ⟨t, g1, g2, by omega⟩
          · exact HB'.out.grown hG2.out (Nat.le_trans hbase HB'.out.size) (fun k hk => by cases hk; exact (HR'.out.maps s hsB).1)
      | some q =>
        rw [hn] at hl1
        have Hn := Aside0.mk hn
        have hq := HWB.out.next _ _ _ hsB hn
        have hl2 := HR'.out.look (P := Tryz.prog) Tryz.underlying64 Tryz.underlying9 zero3 hsB c
        rw [hn] at hl2
        clear hn
        have cp := HR'.out.cLong hsB
        have cq := HR'.out.cLong hq.2.1
        have hpb := HWB.out.long s hsB
        have hqb := HWB.out.long q hq.2.1
        have hfm : A.m < B.m := by rw [HBm.out]; omega
        have hqm := hq.2.1
        by_cases heq : B.long q = B.long s + 1
        · have heqb : ((B.long q : Int) == (B.long s : Int) + 1) = true := by rw [beq_iff_eq]; omega
          have HEq := Aside0.mk heq
          clear heq
          go_wp2
          go_quiet (fail)
          have cf := (HR'.out.drewN nq).cLink hfm
          have ff := (HR'.out.drewN nq).free (A.m * 5 + 1)
          go_wp2
          go_ret
          refine ⟨rfl, ?_, ?_⟩
          · rw [push_at HF.out Hn.out, if_pos HEq.out]
            exact ⟨_, _, _, _, (HR'.out.drewN nq).setLink hfm q⟩
          · exact (bdrew HB'.out nq).setCell (p := ⟨bs', A.m * 5 + 1, none⟩) HR'.out.block.1 _
        · have heqb : ((B.long q : Int) == (B.long s : Int) + 1) = false := by rw [beq_eq_false_iff_ne]; omega
          have HEq := Aside0.mk heq
          clear heq
          go_wp2
          go_quiet (fail)
          go_wp2_with fail
          refine (split_calls _ base ba B e s q c ⟨_, _, _, _, HR'.out.drewN nq⟩ (Nat.le_trans hbase HB'.out.size) HWB.out hsB Hn.out HEq.out he (by rw [HBm.out]; omega)).mono ?_
          rintro e' w3 ⟨rfl, hmem, hb3⟩
          obtain ⟨bs3, cap3, xs3, mb3, hr3⟩ := hmem
          have hfm3 : A.m < (B.split s q c).m := by rw [split_m]; omega
          have cf := hr3.cLink hfm3
          have ff := hr3.free (A.m * 5 + 1)
          have c03 := hr3.cell0
          have HR3 := Aside0.mk hr3
          have HB3 := Aside0.mk hb3
          clear hr3 hb3
          go_wp2
          go_ret
          refine ⟨rfl, ?_, ?_⟩
          · rw [push_at HF.out Hn.out, if_neg HEq.out]
            exact ⟨_, _, _, _, HR3.out.setLink hfm3 B.m⟩
          · exact ((HB'.out.trans (by exact ⟨rfl, rfl, rfl, Nat.le_refl _, fun _ _ => rfl⟩)).trans HB3.out).setCell (p := ⟨bs3, A.m * 5 + 1, none⟩) HR3.out.block.1 _

end Go.Proofs.YtbakoigejihnaaaGreatDoor.Wk
end
section
set_option linter.unusedSectionVars false
set_option linter.unusedSimpArgs false
set_option linter.unusedVariables false
namespace Go.Proofs.YtbakoigejihnaaaGreatDoor.Wk
open Go.RowKit Go.AutoMap Go.Proofs.YtbakoigejihnaaaGreatDoorW.PrintWords Go.Proofs.YtbakoigejihnaaaGreatDoorW.PrintLast Go.Proofs.YtbakoigejihnaaaGreatDoorW.PrintMore
open Sam (Auto upd)

theorem info3 : (Tryz.prog.info? 3).map (fun i => (i.zero, i.size, i.bytes)) = some (some (.int .i64 0), 1, 8) := by kernel_rfl

/-- a row of whole numbers of the call's own, at its full length -/
def IntRow (w : World) (base b n : Nat) (xs : List Nat) : Prop := w.ownsRow base 3 1 (.slice (some ⟨b, 0, none⟩) n n) n (xs.map fun x => .int .i64 (x : Nat))

theorem run_make_ints (n : Nat) (hn : n ≤ 1000000) (w : World) : (Instr.makeSlice 71 (.int .i64 n) (.int .i64 n)).run Tryz.prog w = .ok (.slice (some ⟨w.heap.size, 0, none⟩) n n) (w.alloc (.cells (madeCells #[.int .i64 0] n) 3)) := by
  obtain ⟨i0, hi, hz0, hz1, hz2⟩ := info_parts info3
  have := run_make (P := Tryz.prog) w 71 3 i0 (.int .i64 0) Tryz.underlying71 hi hz0 .i64 .i64 n n (by omega) (Int.le_refl _) (by rw [hz2]; omega) (by omega)
  rw [hz1] at this
  simpa [Value.cells] using this

theorem intRow_made (w : World) (base n : Nat) (hb : base ≤ w.heap.size) (hn : n ≤ 1000000) : IntRow (w.alloc (.cells (madeCells #[.int .i64 0] n) 3)) base w.heap.size n (List.replicate n 0) := by
  have := World.ownsRow_lit (base := base) (e := 3) (size := 1) w (madeCells #[.int .i64 0] n) n hb (by unfold maxLen; omega) (by simp [size_madeCells])
  rw [toList_madeCells_one] at this
  unfold IntRow
  rw [List.map_replicate]
  exact this

theorem IntRow.kept {w w' : World} {base b n : Nat} {xs : List Nat} (h : IntRow w base b n xs) (hk : w'.heap[b]? = w.heap[b]?) : IntRow w' base b n xs :=
  own_move h (fun k hk' => by simp only [Value.ownBlock, Option.some.injEq] at hk'; subst hk'; exact hk)
theorem IntRow.lt {w : World} {base b n : Nat} {xs : List Nat} (h : IntRow w base b n xs) : base ≤ b ∧ b < w.heap.size := World.ownsRow.lt h b rfl
theorem IntRow.length {w : World} {base b n : Nat} {xs : List Nat} (h : IntRow w base b n xs) : xs.length = n := by have := h.1; simpa using this
theorem IntRow.below {w w' : World} {base b n : Nat} {xs : List Nat} (h : IntRow w base b n xs) (hb : Below w.heap.size w w') : IntRow w' base b n xs := h.kept (hb.block b h.lt.2)
theorem IntRow.cell {w : World} {base b n : Nat} {xs : List Nat} (h : IntRow w base b n xs) {i : Nat} (hi : i < n) : w.cell? ⟨b, i, none⟩ = some (.int .i64 (xs.getD i 0 : Nat)) := by
  have hl := h.length
  rw [World.ownsRow.cellAt h i (by omega), List.getElem?_map]
  simp [List.getD, List.getElem?_eq_getElem (show i < xs.length by omega)]
theorem IntRow.free {w : World} {base b n : Nat} {xs : List Nat} (h : IntRow w base b n xs) (i : Nat) : w.frozen? ⟨b, i, none⟩ = false := World.ownsRow.frozenAt h i
theorem IntRow.store {w : World} {base b n : Nat} {xs : List Nat} (h : IntRow w base b n xs) (i u : Nat) : IntRow (w.setCell ⟨b, i, none⟩ (.int .i64 (u : Nat))) base b n (xs.set i u) := by
  have := (World.ownsRow.stored h i (.int .i64 (u : Nat))).1
  unfold IntRow
  rw [List.map_set]; exact this

/-- what is laid at place i of a row that is filled from its head on -/
theorem fill_set (D : List Nat) (n u : Nat) (h : D.length < n) : (D ++ List.replicate (n - D.length) 0).set D.length u = (D ++ [u]) ++ List.replicate (n - (D.length + 1)) 0 := by
  rw [List.set_append_right _ _ (Nat.le_refl _), Nat.sub_self]
  obtain ⟨k, hk⟩ : ∃ k, n - D.length = k + 1 := ⟨n - D.length - 1, by omega⟩
  rw [hk, List.replicate_succ, List.set_cons_zero, show n - (D.length + 1) = k by omega]
  simp

theorem down_stop {A : Auto ByteArray} {w : ByteArray} {s n : Nat} (h : s = 0 ∨ (A.next s w).isSome = true) (k : Nat) : A.down w k s n = (s, n) := by
  cases k with
  | zero => rfl
  | succ k =>
    simp only [Auto.down]
    by_cases e : s = 0
    · rw [if_pos e]
    · rw [if_neg e, if_pos (h.resolve_left e)]
theorem step_none {A : Auto ByteArray} {w : ByteArray} {s n s2 n2 : Nat} (h : A.down w (A.long s + 1) s n = (s2, n2)) (hn : A.next s2 w = none) : A.step w s n = (s2, n2) := by
  unfold Auto.step; rw [h]; simp only [hn]
theorem step_some {A : Auto ByteArray} {w : ByteArray} {s n s2 n2 t : Nat} (h : A.down w (A.long s + 1) s n = (s2, n2)) (hn : A.next s2 w = some t) : A.step w s n = (t, n2 + 1) := by
  unfold Auto.step; rw [h]; simp only [hn]
theorem trace_step {A : Auto ByteArray} {L D : List (Nat × Nat)} {W : List ByteArray} {s n i : Nat} {w : ByteArray} {d : Nat × Nat} (h : L = D ++ A.trace s n (W.drop i)) (hw : W.drop i = w :: W.drop (i + 1)) (hd : A.step w s n = d) : L = (D ++ [d]) ++ A.trace d.1 d.2 (W.drop (i + 1)) := by
  rw [h, hw]; simp only [Auto.trace, hd]; simp

set_option maxHeartbeats 4000000 in
set_option maxRecDepth 100000 in
theorem ends_calls (w : World) (base ba : Nat) (A : Auto ByteArray) (N : Nat) (bs cap : Nat) (xs : List Value) (mb : Nat → Nat) (h : AutoRep 66 69 w base ba A bs cap xs mb) (hwf : WF A N) (hN : N ≤ 10000) (hpos : 0 < A.m) (hroot : ∀ s, s < A.m → s ≠ 0 → A.link s ≠ -1)
    (A1 : Option Addr) (c1 : Nat) (T : List (ByteArray × Int)) (hT : Kd.C kW w A1 T.length T) (hm : T.length ≤ 100000) :
    Calls Tryz.prog 28 #[.pointer (some ⟨ba, 0, none⟩), .slice A1 T.length c1] w fun e w' => ∃ b1 b2, e = .returned (.tuple #[.slice (some ⟨b1, 0, none⟩) T.length T.length, .slice (some ⟨b2, 0, none⟩) T.length T.length]) ∧
      IntRow w' w.heap.size b1 T.length ((A.trace 0 0 (T.map (·.1))).map (·.2)) ∧ IntRow w' w.heap.size b2 T.length ((A.trace 0 0 (T.map (·.1))).map (·.1)) ∧ Below w.heap.size w w' := by
  have H := Aside0.mk h
  have HW := Aside0.mk hwf
  have HT := Aside0.mk hT
  have HRt := Aside0.mk hroot
  have hmk := run_make_ints T.length (by omega)
  have HZ1 : Aside0 (IntRow ((w.alloc (.cells (madeCells #[.int .i64 0] T.length) 3)).alloc (.cells (madeCells #[.int .i64 0] T.length) 3)).drew w.heap.size w.heap.size T.length (List.replicate T.length 0)) := ⟨(intRow_made w w.heap.size T.length (Nat.le_refl _) (by omega)).kept (heap_alloc_old _ _ (by simp))⟩
  have HZ2 : Aside0 (IntRow ((w.alloc (.cells (madeCells #[.int .i64 0] T.length) 3)).alloc (.cells (madeCells #[.int .i64 0] T.length) 3)).drew w.heap.size (w.heap.size + 1) T.length (List.replicate T.length 0)) := by
    have := intRow_made (w.alloc (.cells (madeCells #[.int .i64 0] T.length) 3)) w.heap.size T.length (by simp) (by omega)
    rw [show (w.alloc (.cells (madeCells #[.int .i64 0] T.length) 3)).heap.size = w.heap.size + 1 from by simp] at this
    exact ⟨this.kept rfl⟩
  have HZB : Aside0 (Below w.heap.size w ((w.alloc (.cells (madeCells #[.int .i64 0] T.length) 3)).alloc (.cells (madeCells #[.int .i64 0] T.length) 3)).drew) := ⟨(((Below.refl _ _).alloc (Nat.le_refl _) _).alloc (by simp) _).drew⟩
  clear h hwf hT hroot
  go_enter Tryz.func28, Tryz.ntmps28
  go_wp2_with fail
  go_cut [6, 7] (fun v6 v7 w' => ∃ b1 b2, v6 = .slice (some ⟨b1, 0, none⟩) T.length T.length ∧ v7 = .slice (some ⟨b2, 0, none⟩) T.length T.length ∧ Aside0 (b1 ≠ b2) ∧ Aside0 (IntRow w' w.heap.size b1 T.length (List.replicate T.length 0)) ∧ Aside0 (IntRow w' w.heap.size b2 T.length (List.replicate T.length 0)) ∧ Aside0 (Below w.heap.size w w'))
  case first =>
    go_region
    all_goals (go_wp2_with fail)
    all_goals (go_meet; first | exact ⟨_, _, rfl, rfl, ⟨by omega⟩, HZ1, HZ2, HZB⟩ | exact ⟨_, _, rfl, rfl, ⟨by omega⟩, HZ2, HZ1, HZB⟩)
  case rest =>
    clear hmk
    obtain ⟨b1, b2, rfl, rfl, HNe, HR1, HR2, HB⟩ := hcut
    go_wp2_with fail
    go_loopg [8, 9, 28] T.length (fun kq v8 v9 v28 w' => ∃ (s n i : Nat) (D : List (Nat × Nat)), v8 = .int .i64 s ∧ v9 = .int .i64 n ∧ v28 = .int .i64 i ∧ Aside0 (i + kq = T.length) ∧ Aside0 (D.length = i) ∧ s < A.m ∧ n ≤ 10000 + i ∧ Aside0 (A.trace 0 0 (T.map (·.1)) = D ++ A.trace s n ((T.map (·.1)).drop i)) ∧ Aside0 (IntRow w' w.heap.size b1 T.length (D.map (·.2) ++ List.replicate (T.length - i) 0)) ∧ Aside0 (IntRow w' w.heap.size b2 T.length (D.map (·.1) ++ List.replicate (T.length - i) 0)) ∧ Aside0 (Below w.heap.size w w'))
    case atStart => exact ⟨0, 0, 0, [], rfl, rfl, rfl, ⟨by omega⟩, ⟨rfl⟩, hpos, by omega, ⟨by simp⟩, by simpa using HR1, by simpa using HR2, HB⟩
    case round =>
      obtain ⟨s, n, i, D, rfl, rfl, rfl, HK, HD, hs, hn, HTr, HR1', HR2', HB'⟩ := hrel
      clear HR1 HR2 HB
      by_cases hi : i < T.length
      · have hib : decide ((i : Int) < (T.length : Int)) = true := by simpa using hi
        have hTr := Kd.C_below HT.out HB'.out
        obtain ⟨ad, e1, cw0, cw1⟩ := at_W hTr hi
        subst e1
        have HTb := Aside0.mk hTr
        clear hTr
        go_wp2_with fail
        have hW0 : ∃ W0, W0 = wr.alloc (Obj.cells #[Value.string (wd T i).1, Value.int IntKind.i64 (wd T i).2] 35) := ⟨_, rfl⟩
        obtain ⟨W0, hW0⟩ := hW0
        rw [← hW0]
        have hrep : AutoRep 66 69 W0 base ba A bs cap xs mb := by rw [hW0]; exact (H.out.below HB'.out).below ((Below.refl _ _).alloc (Nat.le_refl _) _)
        have hword : W0.cell? ⟨wr.heap.size, 0, none⟩ = some (.string (wd T i).1) := by rw [hW0]; exact World.news_of_block (heap_alloc_new wr (.cells #[Value.string (wd T i).1, Value.int IntKind.i64 (wd T i).2] 35)) 0 _ rfl
        have hRa : IntRow W0 w.heap.size b1 T.length (D.map (·.2) ++ List.replicate (T.length - i) 0) := by rw [hW0]; exact HR1'.out.below ((Below.refl _ _).alloc (Nat.le_refl _) _)
        have hRb : IntRow W0 w.heap.size b2 T.length (D.map (·.1) ++ List.replicate (T.length - i) 0) := by rw [hW0]; exact HR2'.out.below ((Below.refl _ _).alloc (Nat.le_refl _) _)
        have hBl : Below w.heap.size w W0 := by rw [hW0]; exact HB'.out.alloc HB'.out.size _
        have Hrep := Aside0.mk hrep
        have HRa := Aside0.mk hRa
        have HRb := Aside0.mk hRb
        have HBl := Aside0.mk hBl
        have c0 := hrep.cell0
        clear hW0 hrep hRa hRb hBl HR1' HR2' HB' cw0 cw1 HTb
        have HDr : Aside0 ((T.map (·.1)).drop i = (wd T i).1 :: (T.map (·.1)).drop (i + 1)) := ⟨by
          rw [List.drop_eq_getElem_cons (by simpa using hi)]
          congr 1
          simp [wd, List.getD, hi]⟩
        have ca := HRa.out.cell hi
        have fa := HRa.out.free i
        have cb := HRb.out.cell hi
        have fb := HRb.out.free i
        have hne := HNe.out
        go_loopg [8, 9] (A.long s + 1) (fun kq v8 v9 w' => ∃ (s2 n2 m : Nat), v8 = .int .i64 s2 ∧ v9 = .int .i64 n2 ∧ w' = W0.drewN m ∧ s2 < A.m ∧ n2 ≤ 10000 + i ∧ Aside0 (A.down (wd T i).1 (A.long s + 1) s n = A.down (wd T i).1 kq s2 n2) ∧ Aside0 (A.long s2 < kq))
        case atStart => exact ⟨s, n, 0, rfl, rfl, rfl, hs, by omega, ⟨rfl⟩, ⟨by omega⟩⟩
        case round =>
          obtain ⟨s2, n2, m, rfl, rfl, rfl, hs2, hn2, HDn, HKd⟩ := hrel
          have cn := Hrep.out.cNext hs2
          have hl := fun k => (Hrep.out.drewN k).look_ok (P := Tryz.prog) Tryz.underlying64 Tryz.underlying9 zero3 hs2 (wd T i).1
          by_cases hz : s2 = 0
          · subst hz
            have hzb : decide ((0 : Int) < ((0 : Nat) : Int)) = false := rfl
            cases hnx : A.next 0 (wd T i).1 with
            | none =>
              rw [hnx] at hl
              have HNx := Aside0.mk hnx
              clear hnx
              go_wp2_with fail
              go_quiet (fail)
              go_wp2_with fail
              go_roundg (T.length - (i + 1))
              case measure => have := HK.out; omega
              case rel =>
                refine ⟨0, n2, i + 1, D ++ [(0, n2)], rfl, rfl, by go_num, ⟨by omega⟩, ⟨by have := HD.out; simp; omega⟩, hs2, by omega, ⟨trace_step HTr.out HDr.out (step_none (HDn.out.trans (down_stop (.inl rfl) _)) HNx.out)⟩, ⟨?_⟩, ⟨?_⟩, ⟨((bdrew HBl.out _).setCell (p := ⟨b1, i, none⟩) HRa.out.lt.1 _).setCell (p := ⟨b2, i, none⟩) HRb.out.lt.1 _⟩⟩
                · have h2 := fill_set (D.map (·.2)) T.length n2 (by have := HD.out; simp; omega)
                  simp only [List.length_map, HD.out] at h2
                  simp only [List.map_append, List.map_cons, List.map_nil]
                  rw [← h2]
                  exact ((HRa.out.kept rfl).store i n2).kept (Below.heap_setCell _ _ _ _ (by simpa using hne))
                · have h2 := fill_set (D.map (·.1)) T.length 0 (by have := HD.out; simp; omega)
                  simp only [List.length_map, HD.out] at h2
                  simp only [List.map_append, List.map_cons, List.map_nil]
                  rw [← h2]
                  exact (HRb.out.kept (Below.heap_setCell _ _ _ _ (by simpa using hne.symm))).store i 0
            | some t =>
              rw [hnx] at hl
              have htm := (HW.out.next _ _ _ hs2 hnx).2.1
              have HNx := Aside0.mk hnx
              clear hnx
              go_wp2_with fail
              go_quiet (fail)
              go_wp2_with fail
              go_roundg (T.length - (i + 1))
              case measure => have := HK.out; omega
              case rel =>
                refine ⟨t, (n2 + 1), i + 1, D ++ [(t, (n2 + 1))], rfl, rfl, by go_num, ⟨by omega⟩, ⟨by have := HD.out; simp; omega⟩, htm, by omega, ⟨trace_step HTr.out HDr.out (step_some (HDn.out.trans (down_stop (.inl rfl) _)) HNx.out)⟩, ⟨?_⟩, ⟨?_⟩, ⟨((bdrew HBl.out _).setCell (p := ⟨b1, i, none⟩) HRa.out.lt.1 _).setCell (p := ⟨b2, i, none⟩) HRb.out.lt.1 _⟩⟩
                · have h2 := fill_set (D.map (·.2)) T.length (n2 + 1) (by have := HD.out; simp; omega)
                  simp only [List.length_map, HD.out] at h2
                  simp only [List.map_append, List.map_cons, List.map_nil]
                  rw [← h2]
                  exact ((HRa.out.kept rfl).store i (n2 + 1)).kept (Below.heap_setCell _ _ _ _ (by simpa using hne))
                · have h2 := fill_set (D.map (·.1)) T.length t (by have := HD.out; simp; omega)
                  simp only [List.length_map, HD.out] at h2
                  simp only [List.map_append, List.map_cons, List.map_nil]
                  rw [← h2]
                  exact (HRb.out.kept (Below.heap_setCell _ _ _ _ (by simpa using hne.symm))).store i t
          · have hzb : decide ((0 : Int) < (s2 : Int)) = true := by simp; omega
            cases hnx : A.next s2 (wd T i).1 with
            | some t =>
              rw [hnx] at hl
              have htm := (HW.out.next _ _ _ hs2 hnx).2.1
              have HNx := Aside0.mk hnx
              clear hnx
              go_wp2_with fail
              go_quiet (fail)
              go_wp2_with fail
              go_quiet (fail)
              go_wp2_with fail
              go_roundg (T.length - (i + 1))
              case measure => have := HK.out; omega
              case rel =>
                refine ⟨t, (n2 + 1), i + 1, D ++ [(t, (n2 + 1))], rfl, rfl, by go_num, ⟨by omega⟩, ⟨by have := HD.out; simp; omega⟩, htm, by omega, ⟨trace_step HTr.out HDr.out (step_some (HDn.out.trans (down_stop (.inr (by rw [HNx.out]; rfl)) _)) HNx.out)⟩, ⟨?_⟩, ⟨?_⟩, ⟨((bdrew HBl.out _).setCell (p := ⟨b1, i, none⟩) HRa.out.lt.1 _).setCell (p := ⟨b2, i, none⟩) HRb.out.lt.1 _⟩⟩
                · have h2 := fill_set (D.map (·.2)) T.length (n2 + 1) (by have := HD.out; simp; omega)
                  simp only [List.length_map, HD.out] at h2
                  simp only [List.map_append, List.map_cons, List.map_nil]
                  rw [← h2]
                  exact ((HRa.out.kept rfl).store i (n2 + 1)).kept (Below.heap_setCell _ _ _ _ (by simpa using hne))
                · have h2 := fill_set (D.map (·.1)) T.length t (by have := HD.out; simp; omega)
                  simp only [List.length_map, HD.out] at h2
                  simp only [List.map_append, List.map_cons, List.map_nil]
                  rw [← h2]
                  exact (HRb.out.kept (Below.heap_setCell _ _ _ _ (by simpa using hne.symm))).store i t
            | none =>
              rw [hnx] at hl
              have HNx := Aside0.mk hnx
              clear hnx
              have clk := Hrep.out.cLink hs2
              obtain ⟨t, hlk, htm, htl⟩ : ∃ t : Nat, A.link s2 = t ∧ t < A.m ∧ A.long t < A.long s2 := (HW.out.link s2 hs2).resolve_left (HRt.out s2 hs2 hz)
              rw [hlk] at clk
              have clg := Hrep.out.cLong htm
              have htb := HW.out.long t htm
              have HLk := Aside0.mk hlk
              clear hlk
              go_wp2_with fail
              go_quiet (fail)
              go_wp2_with fail
              obtain ⟨k1, rfl⟩ : ∃ k, gk = k + 1 := ⟨gk - 1, by have := HKd.out; omega⟩
              go_roundg k1
              case measure => omega
              case rel =>
                refine ⟨t, A.long t, _, rfl, rfl, rfl, htm, by omega, ⟨?_⟩, ⟨by have := HKd.out; omega⟩⟩
                rw [HDn.out]
                have hf : (none : Option Nat).isSome = true ↔ False := by simp
                simp only [Auto.down, if_neg hz, HNx.out, hf, if_false, HLk.out, Int.toNat_natCast]
      · have hib : decide ((i : Int) < (T.length : Int)) = false := by simpa using hi
        go_wp2_with fail
        go_ret2
        refine ⟨b1, b2, rfl, ?_, ?_, HB'.out⟩
        · have := HR1'.out
          rw [show T.length - i = 0 by omega] at this
          rw [HTr.out, List.drop_of_length_le (by simp; omega)]
          simpa [Auto.trace] using this
        · have := HR2'.out
          rw [show T.length - i = 0 by omega] at this
          rw [HTr.out, List.drop_of_length_le (by simp; omega)]
          simpa [Auto.trace] using this

end Go.Proofs.YtbakoigejihnaaaGreatDoor.Wk
end
section
set_option linter.unusedSectionVars false
set_option linter.unusedSimpArgs false
set_option linter.unusedVariables false
namespace Sam
/-- the best of a trace, as the loop finds it: length, place in the text, place in the words -/
def Auto.best {α : Type} (A : Auto α) : List (Nat × Nat) → Nat → Nat × Int × Int → Nat × Int × Int
  | [], _, x => x
  | d :: l, i, x => A.best l (i + 1) (if x.1 < d.2 then (d.2, (A.fin d.1 : Int) - d.2, (i : Int) + 1 - d.2) else x)
/-- the sum over the states from k on of how many runs each stands for -/
def Auto.spanSum {α : Type} (A : Auto α) : Nat → Nat → Int → Int
  | 0, _, x => x
  | j + 1, k, x => A.spanSum j (k + 1) (x + ((A.long k : Int) - A.long (A.link k).toNat))
end Sam
namespace Go.Proofs.YtbakoigejihnaaaGreatDoor.Wk
open Go.RowKit Go.AutoMap Go.Proofs.YtbakoigejihnaaaGreatDoorW.PrintWords Go.Proofs.YtbakoigejihnaaaGreatDoorW.PrintLast Go.Proofs.YtbakoigejihnaaaGreatDoorW.PrintMore
open Sam (Auto upd)

section
variable (w : World) (base ba : Nat) (A : Auto ByteArray) (N : Nat) (bs cap : Nat) (xs : List Value) (mb : Nat → Nat) (h : AutoRep 66 69 w base ba A bs cap xs mb) (hwf : WF A N) (hN : N ≤ 10000) (hpos : 0 < A.m) (hroot : ∀ s, s < A.m → s ≠ 0 → A.link s ≠ -1)
    (A1 : Option Addr) (c1 : Nat) (T : List (ByteArray × Int)) (hT : Kd.C kW w A1 T.length T) (hm : T.length ≤ 100000)

include h hwf hN hpos hroot hT hm

set_option maxHeartbeats 2000000 in
theorem longest_calls (htr : ∀ d, d ∈ A.trace 0 0 (T.map (·.1)) → d.1 < A.m ∧ d.2 ≤ 100000) (hfin : ∀ s, s < A.m → A.fin s ≤ 100000) :
    Calls Tryz.prog 12 #[.pointer (some ⟨ba, 0, none⟩), .slice A1 T.length c1] w fun e w' => e = .returned (.tuple #[.int .i64 (A.best (A.trace 0 0 (T.map (·.1))) 0 (0, 0, 0)).2.1, .int .i64 (A.best (A.trace 0 0 (T.map (·.1))) 0 (0, 0, 0)).2.2, .int .i64 ((A.best (A.trace 0 0 (T.map (·.1))) 0 (0, 0, 0)).1 : Nat)]) ∧ Below w.heap.size w w' := by
  have F := Aside0.mk (ends_calls w base ba A N bs cap xs mb h hwf hN hpos hroot A1 c1 T hT hm)
  have H := Aside0.mk h
  have HTr := Aside0.mk htr
  have HF := Aside0.mk hfin
  clear h hwf hN hroot hT hpos htr hfin
  have HL : Aside0 ((A.trace 0 0 (T.map (·.1))).length = T.length) := ⟨by rw [Auto.trace_length]; simp⟩
  generalize hL : A.trace 0 0 (T.map (·.1)) = L at F HTr HL ⊢
  clear hL
  go_enter Tryz.func12, Tryz.ntmps12
  go_wp2_with (go_at_call 28; refine F.out.mono ?_; rintro e w' ⟨b1, b2, rfl, h1, h2, hb⟩; have H1 := Aside0.mk h1; have H2 := Aside0.mk h2; have HB := Aside0.mk hb; clear h1 h2 hb)
  clear F
  go_loopg [9, 10, 11, 22] T.length (fun kq v9 v10 v11 v22 w2 => ∃ (i : Nat) (x : Nat × Int × Int) (m : Nat), v9 = .int .i64 (x.1 : Nat) ∧ v10 = .int .i64 x.2.1 ∧ v11 = .int .i64 x.2.2 ∧ v22 = .int .i64 (i : Nat) ∧ w2 = w'.drewN m ∧ Aside0 (i + kq = T.length) ∧ Aside0 (A.best L 0 (0, 0, 0) = A.best (L.drop i) i x) ∧ Aside0 (x.1 ≤ 100000))
  case atStart => exact ⟨0, (0, 0, 0), 0, rfl, rfl, rfl, rfl, rfl, ⟨by omega⟩, ⟨by simp⟩, ⟨by simp⟩⟩
  case round =>
    obtain ⟨i, ⟨b, t, p⟩, m, rfl, rfl, rfl, rfl, rfl, HK, HBst, HX⟩ := hrel
    by_cases hi : i < T.length
    · have hib : decide ((i : Int) < (T.length : Int)) = true := by simpa using hi
      obtain ⟨d, hd⟩ : ∃ d, L[i]? = some d := ⟨L[i]'(by rw [HL.out]; exact hi), List.getElem?_eq_getElem _⟩
      have hdm := HTr.out d (List.mem_of_getElem? hd)
      have hsm := hdm.1
      have c1 := H1.out.cell hi
      have c2 := H2.out.cell hi
      have e1 : (L.map (·.2)).getD i 0 = d.2 := by simp [List.getD, hd]
      have e2 : (L.map (·.1)).getD i 0 = d.1 := by simp [List.getD, hd]
      rw [e1] at c1
      rw [e2] at c2
      have hrep := H.out.below HB.out
      have c0 := hrep.cell0
      have cf := hrep.cFin hsm
      have hfb := HF.out d.1 hsm
      have hdb := hdm.2
      have hdrop : L.drop i = d :: L.drop (i + 1) := by
        obtain ⟨hlt, hge⟩ := List.getElem?_eq_some_iff.1 hd
        rw [List.drop_eq_getElem_cons hlt, hge]
      have HD := Aside0.mk hdrop
      have hxb := HX.out
      simp only at hxb
      clear hrep e1 e2 hd hdrop hdm
      by_cases hlt : b < d.2
      · have hltb : decide ((b : Int) < (d.2 : Int)) = true := by simpa using hlt
        go_wp2_with fail
        go_quiet (fail)
        go_wp2_with fail
        go_roundg (T.length - (i + 1))
        case measure => have := HK.out; omega
        case rel =>
          refine ⟨i + 1, (d.2, (A.fin d.1 : Int) - d.2, (i : Int) + 1 - d.2), _, rfl, rfl, rfl, by go_num, rfl, ⟨by omega⟩, ⟨?_⟩, ⟨hdb⟩⟩
          rw [HBst.out, HD.out]; simp only [Auto.best]; rw [if_pos hlt]
      · have hltb : decide ((b : Int) < (d.2 : Int)) = false := by simpa using hlt
        go_wp2_with fail
        go_roundg (T.length - (i + 1))
        case measure => have := HK.out; omega
        case rel =>
          refine ⟨i + 1, (b, t, p), _, rfl, rfl, rfl, by go_num, rfl, ⟨by omega⟩, ⟨?_⟩, ⟨hxb⟩⟩
          rw [HBst.out, HD.out]; simp only [Auto.best]; rw [if_neg hlt]
    · have hib : decide ((i : Int) < (T.length : Int)) = false := by simpa using hi
      go_wp2_with fail
      go_ret3
      refine ⟨?_, bdrew HB.out _⟩
      rw [HBst.out, List.drop_of_length_le (by rw [HL.out]; omega)]
      rfl
end
end Go.Proofs.YtbakoigejihnaaaGreatDoor.Wk
end
section
set_option linter.unusedSectionVars false
set_option linter.unusedSimpArgs false
set_option linter.unusedVariables false
namespace Go.Proofs.YtbakoigejihnaaaGreatDoor.Wk
open Go.RowKit Go.AutoMap Go.Proofs.YtbakoigejihnaaaGreatDoorW.PrintWords Go.Proofs.YtbakoigejihnaaaGreatDoorW.PrintLast Go.Proofs.YtbakoigejihnaaaGreatDoorW.PrintMore
open Sam (Auto upd)

def cmpI (x y : Int) : Int := if x < y then -1 else if y < x then 1 else 0

theorem isNaN_calls (x : Int) (w : World) : Calls Tryz.prog 89 #[.int .i64 x] w fun e w' => e = .returned (.bool false) ∧ w' = w := by
  go_enter Tryz.func89, Tryz.ntmps89
  go_wp2_with fail
  go_ret
  refine ⟨?_, rfl⟩
  simp

theorem compare_calls (x y : Int) (w : World) : Calls Tryz.prog 60 #[.int .i64 x, .int .i64 y] w fun e w' => e = .returned (.int .i64 (cmpI x y)) ∧ w' = w := by
  have hc : cmpI x y = cmpI x y := rfl
  by_cases h1 : x < y
  · have H : Aside0 (cmpI x y = -1) := ⟨by unfold cmpI; rw [if_pos h1]⟩
    have hb : decide (x < y) = true := by simpa using h1
    clear hc h1
    go_enter Tryz.func60, Tryz.ntmps60
    go_wp2_with (go_at_call 89; refine (isNaN_calls _ _).mono ?_; rintro e w' ⟨rfl, rfl⟩)
    go_ret
    exact ⟨by rw [H.out]; rfl, rfl⟩
  · have hb : decide (x < y) = false := by simpa using h1
    by_cases h2 : y < x
    · have H : Aside0 (cmpI x y = 1) := ⟨by unfold cmpI; rw [if_neg h1, if_pos h2]⟩
      have hb2 : decide (y < x) = true := by simpa using h2
      clear hc h1 h2
      go_enter Tryz.func60, Tryz.ntmps60
      go_wp2_with (go_at_call 89; refine (isNaN_calls _ _).mono ?_; rintro e w' ⟨rfl, rfl⟩)
      go_ret
      exact ⟨by rw [H.out]; rfl, rfl⟩
    · have H : Aside0 (cmpI x y = 0) := ⟨by unfold cmpI; rw [if_neg h1, if_neg h2]⟩
      have hb2 : decide (y < x) = false := by simpa using h2
      clear hc h1 h2
      go_enter Tryz.func60, Tryz.ntmps60
      go_wp2_with (go_at_call 89; refine (isNaN_calls _ _).mono ?_; rintro e w' ⟨rfl, rfl⟩)
      go_ret
      exact ⟨by rw [H.out]; rfl, rfl⟩

set_option maxHeartbeats 1000000 in
theorem closure_calls (w : World) (base ba B : Nat) (A : Auto ByteArray) (bs cap : Nat) (xs : List Value) (mb : Nat → Nat) (h : AutoRep 66 69 w base ba A bs cap xs mb) (hbox : w.cell? ⟨B, 0, none⟩ = some (.pointer (some ⟨ba, 0, none⟩)))
    (i k : Nat) (hi : i < A.m) (hk : k < A.m) : Calls Tryz.prog 59 #[.int .i64 (i : Nat), .int .i64 (k : Nat), .pointer (some ⟨B, 0, none⟩)] w fun e w' => e = .returned (.int .i64 (cmpI (A.long k : Nat) (A.long i : Nat))) ∧ ∃ q, w' = w.drewN q := by
  have c0 := h.cell0
  have ci := h.cLong hi
  have ck := h.cLong hk
  clear h
  go_enter Tryz.func59, Tryz.ntmps59
  go_wp2_with fail
  go_quiet ((go_at_call 60; exact Calls.quiet_of_same (compare_calls _ _ _)))
  go_wp2_with fail
  go_ret
  exact ⟨rfl, _, rfl⟩
end Go.Proofs.YtbakoigejihnaaaGreatDoor.Wk
end
section
set_option linter.unusedSectionVars false
set_option linter.unusedSimpArgs false
set_option linter.unusedVariables false
namespace Go.Proofs.YtbakoigejihnaaaGreatDoor.Wk
open Go.RowKit Go.AutoMap Go.Proofs.YtbakoigejihnaaaGreatDoorW.PrintWords Go.Proofs.YtbakoigejihnaaaGreatDoorW.PrintLast Go.Proofs.YtbakoigejihnaaaGreatDoorW.PrintMore
open Sam (Auto upd)

def encF {n : Nat} (x : Fin (n + 1)) : Value := .int .i64 (x.val : Nat)
def cfA {n : Nat} (A : Auto ByteArray) (x y : Fin (n + 1)) : Int := cmpI (A.long y.val : Nat) (A.long x.val : Nat)

theorem ltA {n : Nat} (A : Auto ByteArray) (x y : Fin (n + 1)) : ltOf (cfA A) x y = decide (A.long y.val < A.long x.val) := by
  unfold ltOf cfA cmpI
  by_cases h1 : (A.long y.val : Int) < (A.long x.val : Int)
  · rw [if_pos h1]; simp; omega
  · rw [if_neg h1]
    by_cases h2 : (A.long x.val : Int) < (A.long y.val : Int)
    · rw [if_pos h2]; simp; omega
    · rw [if_neg h2]; simp; omega

theorem swoA {n : Nat} (A : Auto ByteArray) : Go.Sort.SWO (ltOf (cfA (n := n) A)) where
  irrefl x := by rw [ltA]; simp
  trans x y z h1 h2 := by rw [ltA] at *; simp at *; omega
  ntrans x y z h1 h2 := by rw [ltA] at *; simp at *; omega

def first {n : Nat} : Array (Fin (n + 1)) := Array.ofFn (n := n + 1) id
theorem first_size {n : Nat} : (first (n := n)).size = n + 1 := by simp [first]
theorem first_at {n : Nat} {j : Nat} (hj : j < n + 1) : (first (n := n))[j]!.val = j := by
  rw [getElem!_pos _ j (by simpa [first] using hj)]; simp [first]

theorem order_of {n : Nat} (A : Auto ByteArray) (d : Array (Fin (n + 1))) (hp : Go.Sort.PermIn 0 (first (n := n)).size first d) (hs : Go.Sort.SortedIn (ltOf (cfA A)) 0 (first (n := n)).size d) :
    ∃ order : List Nat, order.Perm (List.range (n + 1)) ∧ (order.Pairwise fun i k => A.long k ≤ A.long i) ∧ ∀ j, j < n + 1 → encF d[j]! = .int .i64 (order.getD j 0 : Nat) := by
  obtain ⟨h1, _, h2⟩ := hp
  rw [first_size] at h1 h2 hs
  have e1 : d.extract 0 (n + 1) = d := by
    apply Array.ext
    · simp [h1]
    · intro i _ _; simp
  have e2 : (first (n := n)).extract 0 (n + 1) = first := by
    have := first_size (n := n)
    apply Array.ext
    · simp [this]
    · intro i _ _; simp
  rw [e1, e2] at h2
  refine ⟨d.toList.map (·.val), ?_, ?_, ?_⟩
  · have h3 := h2.map (fun x : Fin (n + 1) => x.val)
    have e3 : (first (n := n)).toList.map (fun x : Fin (n + 1) => x.val) = List.range (n + 1) := by
      apply List.ext_getElem
      · simp [first]
      · intro i h _; rw [List.getElem_map, Array.getElem_toList]; simp only [first, Array.getElem_ofFn, List.getElem_range, id_eq]
    rw [e3] at h3; exact h3
  · rw [List.pairwise_map, List.pairwise_iff_getElem]
    intro i j hi hj hij
    have := hs i j (by omega) hij (by simpa [h1] using hj)
    rw [ltA] at this
    rw [getElem!_pos d j (by simpa using hj), getElem!_pos d i (by simpa using hi)] at this
    simpa using this
  · intro j hj
    rw [getElem!_pos d j (by omega)]
    simp [encF, List.getD, List.getElem?_map, Array.getElem?_toList, show j < d.size by omega]

theorem heap_sortWorld {α : Type} [Inhabited α] (enc : α → Value) (W : World) (blk off m : Nat) (dk : Array α) (os : Array Obj) {k : Nat} (h1 : k ≠ blk) (h2 : k < W.heap.size) : (sortWorld enc W blk off m dk os).heap[k]? = W.heap[k]? := by
  unfold sortWorld
  rw [Go.Sort.heap_grow_old]
  · simp [Go.Sort.putRow, Go.Sort.mapBlock, Array.getElem?_modify, Ne.symm h1, Go.Sort.ahead]
  · simpa [Go.Sort.putRow, Go.Sort.mapBlock, Go.Sort.ahead] using h2

theorem size_sortWorld {α : Type} [Inhabited α] (enc : α → Value) (W : World) (blk off m : Nat) (dk : Array α) (os : Array Obj) : W.heap.size ≤ (sortWorld enc W blk off m dk os).heap.size := by
  simp [sortWorld, Go.Sort.putRow, Go.Sort.mapBlock, Go.Sort.ahead]

theorem below_sortWorld {α : Type} [Inhabited α] (enc : α → Value) (W : World) (blk off m : Nat) (dk : Array α) (os : Array Obj) {base : Nat} (h1 : base ≤ blk) (h2 : base ≤ W.heap.size) : Below base W (sortWorld enc W blk off m dk os) :=
  ⟨rfl, rfl, rfl, size_sortWorld _ _ _ _ _ _ _, fun k hk => heap_sortWorld _ _ _ _ _ _ _ (by omega) (by omega)⟩

/-- what the second loop keeps: the order and the box -/
structure Side (w : World) (ob B ba m : Nat) (order : List Nat) : Prop where
  lt : ob < w.heap.size ∧ B < w.heap.size
  row : ∀ j, j < m → w.cell? ⟨ob, j, none⟩ = some (.int .i64 (order.getD j 0 : Nat))
  box : w.cell? ⟨B, 0, none⟩ = some (.pointer (some ⟨ba, 0, none⟩))

theorem Side.kept {w w' : World} {ob B ba m : Nat} {order : List Nat} (h : Side w ob B ba m order) (hs : w.heap.size ≤ w'.heap.size) (h1 : w'.heap[ob]? = w.heap[ob]?) (h2 : w'.heap[B]? = w.heap[B]?) : Side w' ob B ba m order := by
  refine ⟨⟨by have := h.lt.1; omega, by have := h.lt.2; omega⟩, fun j hj => ?_, ?_⟩
  · have := h.row j hj
    simp only [World.cell?] at this ⊢
    rw [h1]; exact this
  · have := h.box
    simp only [World.cell?] at this ⊢
    rw [h2]; exact this

theorem sort_calls (w W : World) (base ba : Nat) (A : Auto ByteArray) (bs cap : Nat) (xs : List Value) (mb : Nat → Nat) (h : AutoRep 66 69 w base ba A bs cap xs mb) (hpos : 0 < A.m) (hm : A.m ≤ 30000) (hB : Below w.heap.size w W) (ob B c : Nat)
    (hob : w.heap.size ≤ ob) (hB1 : B < W.heap.size) (hne : B ≠ ob) (hrow : IntRow W w.heap.size ob A.m (List.range A.m)) (hbox : W.cell? ⟨B, 0, none⟩ = some (.pointer (some ⟨ba, 0, none⟩))) :
    Calls Tryz.prog 58 #[.slice (some ⟨ob, 0, none⟩) A.m c, .func (.func 59) #[] #[.pointer (some ⟨B, 0, none⟩)]] W fun e w' => e = .returned (.tuple #[]) ∧ ∃ order : List Nat, order.Perm (List.range A.m) ∧ (order.Pairwise fun i k => A.long k ≤ A.long i) ∧ Side w' ob B ba A.m order ∧ Below w.heap.size w w' := by
  obtain ⟨n, hn⟩ : ∃ n, A.m = n + 1 := ⟨A.m - 1, by omega⟩
  have eg : ∀ args w, (callFunc 59 args).run Tryz.prog w = .ok (.enter 59 args) w := enters_of Tryz.func59 (by kernel_rfl) rfl
  have hH : Go.Sort.Holds encF W ob 0 (first (n := n)) := by
    intro j hj
    rw [first_size] at hj
    have hc := hrow.cell (i := j) (by omega)
    rw [Nat.zero_add, hc]
    refine ⟨?_, hrow.free j⟩
    unfold encF
    rw [first_at hj]
    simp [List.getD, hn, hj]
  have hcmp : CmpReads Tryz.prog 59 #[.pointer (some ⟨B, 0, none⟩)] (encF (n := n)) (cfA A) ob 0 (first (n := n)).size W := by
    intro m os dk _ x y
    have hrep : AutoRep 66 69 (sortWorld encF W ob 0 m dk os) base ba A bs cap xs mb := h.kept fun k _ hk => by
      rw [heap_sortWorld _ _ _ _ _ _ _ (by omega) (by have := hB.size; omega), hB.block k hk]
    have hbx : (sortWorld encF W ob 0 m dk os).cell? ⟨B, 0, none⟩ = some (.pointer (some ⟨ba, 0, none⟩)) := by
      simp only [World.cell?] at hbox ⊢
      rw [heap_sortWorld _ _ _ _ _ _ _ hne hB1]; exact hbox
    exact closure_calls _ base ba B A bs cap xs mb hrep hbx x.val y.val (by omega) (by omega)
  have hs := Tryz.slices_SortFunc (encF (n := n)) (fun _ => rfl) (cfA A) (swoA A) 59 #[.pointer (some ⟨B, 0, none⟩)] ob 0 c (first (n := n)) W eg hcmp.lays hH hrow.lt.2 (by rw [first_size]; omega)
  have hss : (first (n := n)).size = A.m := by rw [first_size, hn]
  rw [hss] at hs
  refine hs.mono ?_
  rintro e w' ⟨rfl, d, k, os, hp, hsd, rfl⟩
  rw [← hss] at hp hsd
  obtain ⟨order, h1, h2, h3⟩ := order_of A d hp hsd
  refine ⟨rfl, order, by rw [hn]; exact h1, h2, ⟨⟨?_, ?_⟩, ?_, ?_⟩, hB.trans (below_sortWorld _ _ _ _ _ _ _ hob hB.size)⟩
  · have := size_sortWorld encF W ob 0 k d os; have := hrow.lt.2; omega
  · have := size_sortWorld encF W ob 0 k d os; omega
  · intro j hj
    have hd : d.size = (first (n := n)).size := hp.1
    have hSW : SW encF W ob 0 d (sortWorld encF W ob 0 k d os) := ⟨_, _, rfl⟩
    have := hSW.c1 ⟨fun _ => rfl, hH, hrow.lt.2⟩ hd j (by rw [hd, first_size]; omega)
    rw [Nat.zero_add] at this
    rw [this, h3 j (by omega)]
  · simp only [World.cell?] at hbox ⊢
    rw [heap_sortWorld _ _ _ _ _ _ _ hne hB1]; exact hbox

theorem addAll_take {A : Auto ByteArray} {order : List Nat} {i : Nat} (hi : i < order.length) : A.addAll (order.take (i + 1)) = (A.addAll (order.take i)).addUp (order.getD i 0) := by
  unfold Auto.addAll
  rw [List.take_succ_eq_append_getElem hi, List.foldl_append]
  simp [List.getD, List.getElem?_eq_getElem hi]
end Go.Proofs.YtbakoigejihnaaaGreatDoor.Wk
end
section
set_option linter.unusedSectionVars false
set_option linter.unusedSimpArgs false
set_option linter.unusedVariables false
namespace Go.Proofs.YtbakoigejihnaaaGreatDoor.Wk
open Go.RowKit Go.AutoMap Go.Proofs.YtbakoigejihnaaaGreatDoorW.PrintWords Go.Proofs.YtbakoigejihnaaaGreatDoorW.PrintLast Go.Proofs.YtbakoigejihnaaaGreatDoorW.PrintMore
open Sam (Auto upd)

set_option maxHeartbeats 4000000 in
set_option maxRecDepth 100000 in
theorem sum_calls (w : World) (base ba : Nat) (A : Auto ByteArray) (T : List ByteArray) (rep : Nat → List ByteArray) (h : AutoMem 66 69 w base ba A) (hbase : base ≤ w.heap.size) (hinv : Sam.Inv T A rep) (hT : T.length ≤ 10000) (hm : A.m ≤ 30000) :
    Calls Tryz.prog 27 #[.pointer (some ⟨ba, 0, none⟩)] w fun e w' => e = .returned (.tuple #[]) ∧ ∃ order : List Nat, order.Perm (List.range A.m) ∧ (order.Pairwise fun i k => A.long k ≤ A.long i) ∧ AutoMem 66 69 w' base ba (A.sum order) ∧ Below base w w' := by
  obtain ⟨bs, cap, xs, mb, h⟩ := h
  have HI := Aside0.mk hinv
  have hpos := hinv.pos
  obtain ⟨n, hn⟩ : ∃ n, A.m = n + 1 := ⟨A.m - 1, by omega⟩
  have c0 : w.cell? ⟨ba, 0, none⟩ = some (.slice (some ⟨bs, 0, none⟩) A.m cap) := h.cell0
  have hba := h.head_lt
  have hbs := h.block.2
  have hmk := run_make_ints A.m (by omega)
  have H := Aside0.mk h
  have HN := Aside0.mk hn
  clear h hinv hn
  go_enter Tryz.func27, Tryz.ntmps27
  go_wp2_with fail
  clear hmk c0
  have HZ : Aside0 (IntRow ((w.alloc (Obj.cells #[Value.pointer (some ⟨ba, 0, none⟩)] 41)).alloc (Obj.cells (madeCells #[.int .i64 0] A.m) 3)) w.heap.size (w.heap.size + 1) A.m (List.replicate A.m 0)) := by
    have := intRow_made (w.alloc (Obj.cells #[Value.pointer (some ⟨ba, 0, none⟩)] 41)) w.heap.size A.m (by simp) (by omega)
    rw [show (w.alloc (Obj.cells #[Value.pointer (some ⟨ba, 0, none⟩)] 41)).heap.size = w.heap.size + 1 from by simp] at this
    exact ⟨this⟩
  have HZ2 : Aside0 (((w.alloc (Obj.cells #[Value.pointer (some ⟨ba, 0, none⟩)] 41)).alloc (Obj.cells (madeCells #[.int .i64 0] A.m) 3)).heap[w.heap.size]? = some (.cells #[Value.pointer (some ⟨ba, 0, none⟩)] 41 (0, 0))) := ⟨by
    rw [heap_alloc_old _ _ (by simp)]; exact heap_alloc_new _ _⟩
  have HZB : Aside0 (Below w.heap.size w ((w.alloc (Obj.cells #[Value.pointer (some ⟨ba, 0, none⟩)] 41)).alloc (Obj.cells (madeCells #[.int .i64 0] A.m) 3))) := ⟨((Below.refl _ _).alloc (Nat.le_refl _) _).alloc (by simp) _⟩
  go_loopg [15] A.m (fun kq v15 w' => ∃ i : Nat, v15 = .int .i64 i ∧ Aside0 (i + kq = A.m) ∧ Aside0 (IntRow w' w.heap.size (w.heap.size + 1) A.m (List.range i ++ List.replicate (A.m - i) 0)) ∧ Aside0 (w'.heap[w.heap.size]? = some (.cells #[Value.pointer (some ⟨ba, 0, none⟩)] 41 (0, 0))) ∧ Aside0 (Below w.heap.size w w'))
  case atStart => exact ⟨0, rfl, ⟨by omega⟩, by simpa using HZ, HZ2, HZB⟩
  case round =>
    obtain ⟨i, rfl, HK, HR, HX, HB⟩ := hrel
    clear HZ HZ2 HZB
    by_cases hi : i < A.m
    · have hib : decide ((i : Int) < (A.m : Int)) = true := by simpa using hi
      have ci := HR.out.cell hi
      have fi := HR.out.free i
      have hlt := HR.out.lt.2
      go_wp2_with fail
      go_roundg (gk - 1)
      case measure => have := HK.out; omega
      case rel =>
        refine ⟨i + 1, rfl, ⟨by have := HK.out; omega⟩, ⟨?_⟩, ⟨?_⟩, ⟨HB.out.setCell (p := ⟨w.heap.size + 1, i, none⟩) (by simp) _⟩⟩
        · have := HR.out.store i i
          have e := fill_set (List.range i) A.m i (by simpa using hi)
          simp only [List.length_range] at e
          rw [e, ← List.range_succ] at this
          exact this
        · rw [Below.heap_setCell _ _ _ _ (by simp)]; exact HX.out
    · have him : i = A.m := by have := HK.out; omega
      have hib : decide ((i : Int) < (A.m : Int)) = false := by simpa using hi
      have hx0 : wr.cell? ⟨w.heap.size, 0, none⟩ = some (.pointer (some ⟨ba, 0, none⟩)) := cell_of_one HX.out
      have hlt := HR.out.lt.2
      have hltB : w.heap.size < wr.heap.size := by omega
      have hrow : IntRow wr w.heap.size (w.heap.size + 1) A.m (List.range A.m) := by
        have := HR.out; rw [him, Nat.sub_self, List.replicate_zero, List.append_nil] at this; exact this
      have hrepr := H.out.below HB.out
      have hsort := Aside0.mk (sort_calls w wr base ba A bs cap xs mb H.out (by omega) hm HB.out (w.heap.size + 1) w.heap.size A.m (by omega) hltB (by omega) hrow hx0)
      clear hrow hrepr
      go_wp2_with (go_at_call 58; refine (hsort.out).mono ?_; rintro e w2 ⟨rfl, order, hp, hs, hside, hb2⟩)
      have HP := Aside0.mk hp
      have HS := Aside0.mk hs
      have HSd := Aside0.mk hside
      have HB2 := Aside0.mk hb2
      have hol : order.length = A.m := by have := hp.length_eq; simpa using this
      clear hp hs hside hb2 hsort HR HX HB hx0 hlt hltB
      go_loopg [28] A.m (fun kq v28 w' => ∃ (i : Nat) (xs' : List Value), v28 = .int .i64 i ∧ Aside0 (i + kq = A.m) ∧ Aside0 (AutoRep 66 69 w' base ba (A.addAll (order.take i)) bs cap xs' mb) ∧ Aside0 (Side w' (w.heap.size + 1) w.heap.size ba A.m order) ∧ Aside0 (Below base w w'))
      case atStart => exact ⟨0, xs, rfl, ⟨by omega⟩, ⟨by simpa [Auto.addAll] using H.out.below HB2.out⟩, HSd, ⟨HB2.out.mono hbase⟩⟩
      case round =>
        obtain ⟨i, xs', rfl, HK, HR, HSide, HB⟩ := hrel
        clear HSd HB2
        have hAm : (A.addAll (order.take i)).m = A.m := Sam.addAll_m _ _
        by_cases hi2 : i < A.m
        · have hib2 : decide ((i : Int) < (A.m : Int)) = true := by simpa using hi2
          have co := HSide.out.row i hi2
          have cb := HSide.out.box
          have hl1 := HSide.out.lt.1
          have hl2 := HSide.out.lt.2
          have c0 := HR.out.cell0
          rw [hAm] at c0
          have hba' := HR.out.head_lt
          have hbs' := HR.out.block.2
          obtain ⟨s, hs⟩ : ∃ s, order.getD i 0 = s := ⟨_, rfl⟩
          have hsm : s < A.m := by
            have : order.getD i 0 ∈ order := by rw [List.getD_eq_getElem?_getD, List.getElem?_eq_getElem (by omega)]; simp
            rw [hs] at this
            simpa using (HP.out.mem_iff.1 this)
          rw [hs] at co
          have hsm' : s < (A.addAll (order.take i)).m := by omega
          have HCl : Aside0 ((A.addAll (order.take i)).link = A.link) := ⟨Sam.addAll_link _ _⟩
          have HUp : Aside0 (A.addAll (order.take (i + 1)) = (A.addAll (order.take i)).addUp s) := ⟨by rw [addAll_take (by omega), hs]⟩
          have hcb : ∀ t, t < A.m → (A.addAll (order.take i)).count t ≤ 10000 := fun t ht => Nat.le_trans (HI.out.added_le HP.out HS.out i ht) hT
          clear hib hs
          generalize A.addAll (order.take i) = C at HR hAm hsm' HCl HUp hcb
          have c1 := HR.out.cLong hsm'
          have c2 := HR.out.cLink hsm'
          have c3 := HR.out.cCount hsm'
          have c4 := HR.out.cFin hsm'
          have c5 := HR.out.cNext hsm'
          have hcs := hcb s hsm
          rcases (inv_wf HI.out).link s hsm with hl | ⟨t, hl, ht, _⟩
          · rw [← HCl.out] at hl
            have HL := Aside0.mk hl
            rw [hl] at c2
            clear hl
            go_wp2_with fail
            go_roundg (gk - 1)
            case measure => have := HK.out; omega
            case rel =>
              refine ⟨i + 1, xs', rfl, ⟨by have := HK.out; omega⟩, ⟨?_⟩, ⟨HSide.out.kept (by simp) (heap_alloc_old _ _ hl1) (heap_alloc_old _ _ hl2)⟩, ⟨HB.out.alloc (by have := HB.out.size; omega) _⟩⟩
              rw [HUp.out]
              unfold Auto.addUp
              rw [HL.out, if_neg (by omega)]
              exact HR.out.below ((Below.refl _ _).alloc (Nat.le_refl _) _)
          · rw [← HCl.out] at hl
            have HL := Aside0.mk hl
            rw [hl] at c2
            have h0t : decide (0 ≤ (t : Int)) = true := by simp
            clear hl
            go_wp2_with fail
            have hW0 : ∃ W0, W0 = wr.alloc (Obj.cells #[.int .i64 (C.long s : Nat), .int .i64 (t : Nat), .int .i64 (C.count s : Nat), .int .i64 (C.fin s : Nat), .map (some (mb s))] 66) := ⟨_, rfl⟩
            obtain ⟨W0, hW0⟩ := hW0
            rw [← hW0]
            have hrep : AutoRep 66 69 W0 base ba C bs cap xs' mb := by rw [hW0]; exact HR.out.below ((Below.refl _ _).alloc (Nat.le_refl _) _)
            have hside : Side W0 (w.heap.size + 1) w.heap.size ba A.m order := by rw [hW0]; exact HSide.out.kept (by simp) (heap_alloc_old _ _ hl1) (heap_alloc_old _ _ hl2)
            have hbl : Below base w W0 := by rw [hW0]; exact HB.out.alloc (by have := HB.out.size; omega) _
            have hpart : W0.heap[wr.heap.size]? = some (.cells #[.int .i64 (C.long s : Nat), .int .i64 (t : Nat), .int .i64 (C.count s : Nat), .int .i64 (C.fin s : Nat), .map (some (mb s))] 66 (0, 0)) := by rw [hW0]; exact heap_alloc_new _ _
            have p1 : W0.cell? ⟨wr.heap.size, 1, none⟩ = some (.int .i64 (t : Nat)) := World.news_of_block hpart 1 _ rfl
            have p2 : W0.cell? ⟨wr.heap.size, 2, none⟩ = some (.int .i64 (C.count s : Nat)) := World.news_of_block hpart 2 _ rfl
            have htC : t < C.m := by omega
            have ct := hrep.cCount htC
            have ft := hrep.free (t * 5 + 2)
            have c00 : W0.cell? ⟨ba, 0, none⟩ = some (.slice (some ⟨bs, 0, none⟩) A.m cap) := by rw [← hAm]; exact hrep.cell0
            have cb0 := hside.box
            have hba0 := hrep.head_lt
            have hbs0 := hrep.block.2
            have hlt0 : wr.heap.size < W0.heap.size := by rw [hW0]; simp
            have hct := hcb t ht
            have HR0 := Aside0.mk hrep
            have HS0 := Aside0.mk hside
            have HB0 := Aside0.mk hbl
            clear hW0 hrep hside hbl hpart HR HSide HB c0 c1 c2 c3 c4 c5 cb co hba' hbs' hl1 hl2
            go_region
            all_goals (go_wp2_with fail)
            all_goals (go_roundg (gk - 1))
            case measure => have := HK.out; omega
            case rel =>
              have e : ((C.count t : Int) + (C.count s : Int)) = ((C.count t + C.count s : Nat) : Int) := by omega
              rw [e]
              refine ⟨i + 1, xs'.set (t * 5 + 2) (.int .i64 ((C.count t + C.count s : Nat) : Int)), rfl, ⟨by have := HK.out; omega⟩, ⟨?_⟩, ⟨?_⟩, ⟨(HB0.out.setCell (p := ⟨bs, t * 5 + 2, none⟩) HR0.out.block.1 _).drew⟩⟩
              · rw [HUp.out]
                unfold Auto.addUp
                rw [HL.out, if_pos (by omega)]
                simp only [Int.toNat_natCast]
                exact (HR0.out.setCount htC (C.count t + C.count s)).drew
              · exact HS0.out.kept (by simp) (Below.heap_setCell _ _ _ _ (by simp only; omega)) (Below.heap_setCell _ _ _ _ (by simp only; omega))
        · have him2 : i = A.m := by have := HK.out; omega
          have hib2 : decide ((i : Int) < (A.m : Int)) = false := by simpa using hi2
          have HC : Aside0 (A.addAll (order.take i) = A.addAll order) := ⟨by rw [him2, ← hol, List.take_length]⟩
          have hfin : ∀ s, s < A.m → (A.addAll (order.take i)).count s ≤ 10000 := fun t ht => Nat.le_trans (HI.out.added_le HP.out HS.out i ht) hT
          have HAS : Aside0 (A.sum order = { A.addAll order with count := upd (A.addAll order).count 0 ((A.addAll order).count 0 + 1) }) := ⟨rfl⟩
          rw [HC.out] at HR hAm hfin
          clear HC
          generalize A.addAll order = C at HR hAm HAS hfin
          have cb := HSide.out.box
          have hl1 := HSide.out.lt.1
          have hl2 := HSide.out.lt.2
          have c0 := HR.out.cell0
          rw [hAm] at c0
          have hba' := HR.out.head_lt
          have hbs' := HR.out.block.2
          have h0C : 0 < C.m := by omega
          have c3 := HR.out.cCount h0C
          have f3 := HR.out.free (0 * 5 + 2)
          rw [Nat.zero_mul, Nat.zero_add] at c3 f3
          have hc0 := hfin 0 hpos
          go_wp2_with fail
          have e : ((C.count 0 : Int) + 1) = ((C.count 0 + 1 : Nat) : Int) := by omega
          rw [e]
          go_end0
          refine ⟨rfl, order, HP.out, HS.out, ?_, ?_⟩
          · rw [HAS.out]
            have := HR.out.setCount h0C (C.count 0 + 1)
            rw [Nat.zero_mul, Nat.zero_add] at this
            exact ⟨_, _, _, _, this⟩
          · exact HB.out.setCell (p := ⟨bs, 2, none⟩) HR.out.block.1 _
end Go.Proofs.YtbakoigejihnaaaGreatDoor.Wk
end
section
set_option linter.unusedSectionVars false
set_option linter.unusedSimpArgs false
set_option linter.unusedVariables false
namespace Go.Proofs.YtbakoigejihnaaaGreatDoor.Wk
open Go.RowKit Go.AutoMap Go.Proofs.YtbakoigejihnaaaGreatDoorW.PrintWords Go.Proofs.YtbakoigejihnaaaGreatDoorW.PrintLast Go.Proofs.YtbakoigejihnaaaGreatDoorW.PrintMore
open Sam (Auto upd Good Inv)

theorem rep_start (w : World) (m b a : Nat) (ba : Nat) (hb : w.heap.size ≤ b) (ha : w.heap.size ≤ ba) (hm : w.heap.size ≤ m) (hne : b ≠ ba) (w' : World)
    (h1 : w'.heap[m]? = some (.map #[] 0)) (h2 : w'.heap[b]? = some (.cells #[.int .i64 0, .int .i64 (-1), .int .i64 0, .int .i64 0, .map (some m)] 66 (0, 0))) (h3 : w'.heap[ba]? = some (.cells #[.slice (some ⟨b, 0, none⟩) 1 1] 69 (0, 0))) :
    AutoRep 66 69 w' w.heap.size ba (Auto.start : Auto ByteArray) b 1 [.int .i64 0, .int .i64 (-1), .int .i64 0, .int .i64 0, .map (some m)] (fun _ => m) := by
  refine ⟨ha, h3, ⟨rfl, .inr ⟨b, 1, _, rfl, hb, h2, Nat.le_refl _, by unfold maxLen; omega, ?_, ?_⟩⟩, hne, ?_, ?_, ?_, ?_, ?_, ?_, ?_⟩
  · first | rfl | simp
  · first | rfl | simp
  · intro i hi; obtain rfl : i = 0 := by simp [Auto.start] at hi; exact hi
    rfl
  · intro i hi; obtain rfl : i = 0 := by simp [Auto.start] at hi; exact hi
    rfl
  · intro i hi; obtain rfl : i = 0 := by simp [Auto.start] at hi; exact hi
    rfl
  · intro i hi; obtain rfl : i = 0 := by simp [Auto.start] at hi; exact hi
    rfl
  · intro i hi; obtain rfl : i = 0 := by simp [Auto.start] at hi; exact hi
    rfl
  · intro i _; exact ⟨hm, _, _, h1, mapIs_empty⟩
  · intro i j hi hj _
    simp [Auto.start] at hi hj; omega

/-- what Build gives: the automaton of the words -/
structure Built (W : List ByteArray) (A : Auto ByteArray) : Prop where
  good : ∃ rep, Sam.Good W A rep
  low : W.length + 1 ≤ A.m
  few : W.length ≤ 2 → A.m = W.length + 1
  high : 2 ≤ W.length → A.m + 1 ≤ 2 * W.length

set_option maxHeartbeats 4000000 in
set_option maxRecDepth 100000 in
theorem build_calls (w : World) (A1 : Option Addr) (c1 : Nat) (T : List (ByteArray × Int)) (hT : Kd.C kW w A1 T.length T) (hlen : T.length ≤ 8192) :
    Calls Tryz.prog 11 #[.slice A1 T.length c1] w fun e w' => ∃ ba A, e = .returned (.tuple #[.pointer (some ⟨ba, 0, none⟩), .int .i64 0]) ∧ AutoMem 66 69 w' w.heap.size ba A ∧ Built (T.map (·.1)) A ∧ Below w.heap.size w w' := by
  have hb : decide ((8192 : Int) < (T.length : Int)) = false := by simpa using (by omega : ¬ (8192 : Int) < (T.length : Int))
  have hmm := @run_makeMap Tryz.prog
  have HT := Aside0.mk hT
  clear hT
  go_enter Tryz.func11, Tryz.ntmps11
  go_wp2_with fail
  obtain ⟨W0, hW0⟩ : ∃ W0, W0 = ((w.alloc (.map #[] 0)).alloc (.cells #[.int .i64 0, .int .i64 (-1), .int .i64 0, .int .i64 0, .map (some w.heap.size)] 66)).alloc (.cells #[.slice (some ⟨w.heap.size + 1, 0, none⟩) 1 1] 69) := ⟨_, rfl⟩
  rw [← hW0]
  have HZ : Aside0 (AutoMem 66 69 W0 w.heap.size (w.heap.size + 1 + 1) (Auto.start : Auto ByteArray)) := ⟨⟨_, _, _, _, rep_start w w.heap.size (w.heap.size + 1) 0 (w.heap.size + 1 + 1) (by omega) (by omega) (by omega) (by omega) W0
    (by rw [hW0, heap_alloc_old _ _ (by simp; omega), heap_alloc_old _ _ (by simp)]; exact heap_alloc_new _ _)
    (by
      rw [hW0, heap_alloc_old _ _ (by simp)]
      have := heap_alloc_new (w.alloc (.map #[] 0)) (.cells #[.int .i64 0, .int .i64 (-1), .int .i64 0, .int .i64 0, .map (some w.heap.size)] 66)
      rwa [show (w.alloc (.map #[] 0)).heap.size = w.heap.size + 1 from by simp] at this)
    (by
      rw [hW0]
      have := heap_alloc_new ((w.alloc (.map #[] 0)).alloc (.cells #[.int .i64 0, .int .i64 (-1), .int .i64 0, .int .i64 0, .map (some w.heap.size)] 66)) (.cells #[.slice (some ⟨w.heap.size + 1, 0, none⟩) 1 1] 69)
      rwa [show ((w.alloc (.map #[] 0)).alloc (.cells #[.int .i64 0, .int .i64 (-1), .int .i64 0, .int .i64 0, .map (some w.heap.size)] 66)).heap.size = w.heap.size + 1 + 1 from by simp] at this)⟩⟩
  have HZB : Aside0 (Below w.heap.size w W0) := ⟨by rw [hW0]; exact (((Below.refl _ _).alloc (Nat.le_refl _) _).alloc (by simp) _).alloc (by simp; omega) _⟩
  clear hW0 hmm
  go_loopg [5, 18] T.length (fun kq v5 v18 w' => ∃ (A : Auto ByteArray) (rep : Nat → List ByteArray) (last i : Nat), v5 = .int .i64 last ∧ v18 = .int .i64 i ∧ Aside0 (i + kq = T.length) ∧ Aside0 (AutoMem 66 69 w' w.heap.size (w.heap.size + 1 + 1) A) ∧ Aside0 (Inv ((T.map (·.1)).take i) A rep) ∧ Aside0 (rep last = (T.map (·.1)).take i) ∧ last < A.m ∧ Aside0 (i + 1 ≤ A.m ∧ (i ≤ 2 → A.m = i + 1) ∧ (2 ≤ i → A.m + 1 ≤ 2 * i)) ∧ Aside0 (Below w.heap.size w w'))
  case atStart => exact ⟨Auto.start, fun _ => [], 0, 0, rfl, rfl, ⟨by omega⟩, HZ, ⟨by simpa using Sam.inv_start⟩, ⟨by simp⟩, Nat.zero_lt_one, ⟨Nat.le_refl _, fun _ => rfl, fun h => by omega⟩, HZB⟩
  case round =>
    obtain ⟨A, rep, last, i, rfl, rfl, HK, HM, HInv, HLast, hlast, HSz, HB⟩ := hrel
    clear HZ HZB
    by_cases hi : i < T.length
    · have hib : decide ((i : Int) < (T.length : Int)) = true := by simpa using hi
      obtain ⟨ad, e1, cw0, cw1⟩ := at_W (Kd.C_below HT.out HB.out) hi
      subst e1
      have HTk : Aside0 (((T.map (·.1)).take (i + 1)) = ((T.map (·.1)).take i) ++ [(wd T i).1]) := ⟨by
        rw [List.take_succ_eq_append_getElem (by simpa using hi)]
        congr 1
        simp [wd, List.getD, hi]⟩
      have htl : ((T.map (·.1)).take i).length = i := by simp; omega
      have hpush0 : ∀ w1, Below wr.heap.size wr w1 → Calls Tryz.prog 26 #[.pointer (some ⟨w.heap.size + 1 + 1, 0, none⟩), .int .i64 (last : Nat), .int .i64 ((i + 1 : Nat) : Int), .string (wd T i).1] w1 fun e' w' => e' = .returned (.int .i64 (A.m : Nat)) ∧ AutoMem 66 69 w' w.heap.size (w.heap.size + 1 + 1) (A.push last (i + 1) (wd T i).1) ∧ Below w.heap.size w1 w' := fun w1 hb1 =>
        push_calls w1 w.heap.size (w.heap.size + 1 + 1) A i last (i + 1) (wd T i).1 (HM.out.below hb1) (by have := HB.out.size; have := hb1.size; omega) (by have := inv_wf HInv.out; rwa [htl] at this) hlast (by omega) (by omega) (by have := HSz.out; omega) (by omega) (by rw [HInv.out.long 0 (by omega), HInv.out.root]; rfl)
      have hpush := Aside0.mk hpush0
      clear hpush0
      go_wp2_with fail
      have hbw : Below wr.heap.size wr (wr.alloc (Obj.cells #[Value.string (wd T i).1, Value.int IntKind.i64 (wd T i).2] 35)) := (Below.refl _ _).alloc (Nat.le_refl _) _
      have hp1 := hpush.out _ hbw
      rw [show (((i + 1 : Nat) : Int)) = (i : Int) + 1 by omega] at hp1
      refine hp1.mono ?_
      rintro e w' ⟨rfl, hm2, hb2⟩
      have HM2 := Aside0.mk hm2
      have HB2 : Aside0 (Below w.heap.size w w') := ⟨(HB.out.alloc HB.out.size _).trans hb2⟩
      clear hm2 hb2 hp1 hbw hpush
      go_wp2_with fail
      go_roundg (gk - 1)
      case measure => have := HK.out; omega
      case rel =>
        have hpi := Sam.push_inv HInv.out hlast HLast.out (wd T i).1
        rw [htl] at hpi
        obtain ⟨rep', h1, h2, h3, h4, h5⟩ := hpi
        have hsz := HSz.out
        refine ⟨_, rep', A.m, i + 1, rfl, rfl, ⟨by have := HK.out; omega⟩, HM2, ⟨by rw [HTk.out]; exact h1⟩, ⟨by rw [HTk.out]; exact h2⟩, h3, ⟨by omega, fun h => ?_, fun h => ?_⟩, HB2⟩
        · have := h5 (by omega); have := hsz.2.1 (by omega); omega
        · rcases Nat.lt_or_ge i 2 with g | g
          · have := h5 (by omega); have := hsz.2.1 (by omega); omega
          · have := hsz.2.2 g; omega
    · have him : i = T.length := by have := HK.out; omega
      have hib : decide ((i : Int) < (T.length : Int)) = false := by simpa using hi
      have HTk : Aside0 ((T.map (·.1)).take i = T.map (·.1)) := ⟨List.take_of_length_le (by simp; omega)⟩
      rw [HTk.out] at HInv
      have HSum := Aside0.mk (sum_calls wr w.heap.size (w.heap.size + 1 + 1) A (T.map (·.1)) rep HM.out HB.out.size HInv.out (by simp; omega) (by have := HSz.out; omega))
      go_wp2_with (go_at_call 27; refine HSum.out.mono ?_; rintro e w' ⟨rfl, order, hp, hs, hm2, hb2⟩)
      have HP := Aside0.mk hp
      have HS := Aside0.mk hs
      have HM2 := Aside0.mk hm2
      have HB2 := Aside0.mk hb2
      clear hp hs hm2 hb2 HSum
      go_wp2_with fail
      go_ret2
      refine ⟨_, _, rfl, HM2.out, ⟨⟨rep, HInv.out.good HP.out HS.out⟩, ?_, ?_, ?_⟩, HB.out.trans HB2.out⟩
      · have hm : (A.sum order).m = A.m := Sam.addAll_m _ _
        have := HSz.out; rw [hm]; simp; omega
      · have hm : (A.sum order).m = A.m := Sam.addAll_m _ _
        have := HSz.out; rw [hm]; simp; omega
      · have hm : (A.sum order).m = A.m := Sam.addAll_m _ _
        have := HSz.out; rw [hm]; simp; omega
end Go.Proofs.YtbakoigejihnaaaGreatDoor.Wk
end
section
set_option linter.unusedSectionVars false
namespace Sam
section
variable {α : Type} [DecidableEq α]

def firstEnd (T L : List α) : Option Nat := (List.range (T.length + 1)).find? fun e => decide (EndsAt T L e)

theorem firstEnd_some {T L : List α} {e : Nat} : firstEnd T L = some e ↔ EndsAt T L e ∧ ∀ e', EndsAt T L e' → e ≤ e' := by
  unfold firstEnd
  rw [List.find?_range_eq_some]
  constructor
  · rintro ⟨h1, h2, h3⟩
    refine ⟨by simpa using h1, fun e' he => ?_⟩
    rcases Nat.lt_or_ge e' e with g | g
    · have := h3 e' g; simp at this; exact (this he).elim
    · exact g
  · rintro ⟨h1, h2⟩
    refine ⟨by simpa using h1, by have := h1.le; simp; omega, fun j hj => ?_⟩
    simp only [Bool.not_eq_true', decide_eq_false_iff_not]
    intro h; have := h2 j h; omega

theorem firstEnd_none {T L : List α} : firstEnd T L = none ↔ ¬ Run T L := by
  unfold firstEnd
  rw [List.find?_eq_none]
  constructor
  · rintro h ⟨e, he⟩
    exact h e (by have := he.le; simp; omega) (by simpa using he)
  · intro h e _ he
    exact h ⟨e, by simpa using he⟩

instance (T L : List α) : Decidable (Run T L) :=
  if h : (firstEnd T L).isSome = true then .isTrue (by
    obtain ⟨e, he⟩ := Option.isSome_iff_exists.1 h
    exact ⟨e, (firstEnd_some.1 he).1⟩)
  else .isFalse (by
    intro hr
    cases hf : firstEnd T L with
    | none => exact firstEnd_none.1 hf hr
    | some e => rw [hf] at h; exact h rfl)

def firstS (T L : List α) : Int := match firstEnd T L with
  | none => -1
  | some e => (e : Int) - L.length

theorem firstS_of {T L : List α} {e : Nat} (h : EndsAt T L e) (hl : ∀ e', EndsAt T L e' → e ≤ e') : firstS T L = (e : Int) - L.length := by
  unfold firstS; rw [firstEnd_some.2 ⟨h, hl⟩]
theorem Run.first {T L : List α} (h : Run T L) : ∃ e, EndsAt T L e ∧ (∀ e', EndsAt T L e' → e ≤ e') ∧ firstS T L = (e : Int) - L.length := by
  cases hf : firstEnd T L with
  | none => exact (firstEnd_none.1 hf h).elim
  | some e =>
    have := firstEnd_some.1 hf
    exact ⟨e, this.1, this.2, firstS_of this.1 this.2⟩
/-- the longest end of P, of at most n words, that is a run -/
def longS (T P : List α) : Nat → Nat
  | 0 => 0
  | n + 1 => if Run T (P.drop (P.length - (n + 1))) then n + 1 else longS T P n

theorem longS_eq {T P : List α} {k : Nat} : ∀ {n : Nat}, k ≤ n → Run T (P.drop (P.length - k)) → (∀ j, k < j → j ≤ n → ¬ Run T (P.drop (P.length - j))) → longS T P n = k
  | 0, hk, _, _ => by simp [longS]; omega
  | n + 1, hk, h1, h2 => by
    simp only [longS]
    by_cases e : k = n + 1
    · subst e; rw [if_pos h1]
    · rw [if_neg (h2 _ (by omega) (Nat.le_refl _))]
      exact longS_eq (by omega) h1 (fun j hj hjn => h2 j hj (by omega))

def endsS (T L : List α) : List Nat := (List.range L.length).map fun i => longS T (L.take (i + 1)) (i + 1)

/-- the first of the longest ends, as the scan finds it: length, place in the text, place in the words -/
def pick (T L : List α) : List Nat → Nat → Nat × Int × Int → Nat × Int × Int
  | [], _, x => x
  | d :: l, i, x => pick T L l (i + 1) (if x.1 < d then (d, firstS T ((L.take (i + 1)).drop (i + 1 - d)), (i : Int) + 1 - d) else x)
def bestS (T L : List α) : Nat × Int × Int := pick T L (endsS T L) 0 (0, 0, 0)

/-- the different runs that are not empty, each at its first place -/
def runsList (T : List α) : List (List α) :=
  (List.range T.length).flatMap fun i => ((List.range (T.length - i)).map fun j => (T.take (i + 1 + j)).drop i).filter fun r => decide (firstS T r = (i : Int))
def nRuns (T : List α) : Nat := (runsList T).length

theorem endsAt_cut {T : List α} {i k : Nat} (hk : k ≤ T.length) : EndsAt T ((T.take k).drop i) k := ⟨hk, List.drop_suffix _ _⟩

theorem mem_runsList {T x : List α} : x ∈ runsList T ↔ x ≠ [] ∧ Run T x := by
  unfold runsList
  simp only [List.mem_flatMap, List.mem_filter, List.mem_map, List.mem_range, decide_eq_true_eq]
  constructor
  · rintro ⟨i, hi, ⟨j, hj, rfl⟩, _⟩
    refine ⟨?_, ⟨_, endsAt_cut (by omega)⟩⟩
    intro h
    have := congrArg List.length h
    simp at this; omega
  · rintro ⟨h1, h2⟩
    obtain ⟨e, he, hl, hf⟩ := h2.first
    have hlen := he.len
    have hpos : 0 < x.length := List.length_pos_iff.2 h1
    have hle := he.le
    have hx : x = (T.take e).drop (e - x.length) := by
      have := List.suffix_iff_eq_drop.1 he.2
      rwa [List.length_take, Nat.min_eq_left hle] at this
    refine ⟨e - x.length, by omega, ⟨x.length - 1, by omega, ?_⟩, by rw [hf]; omega⟩
    rw [show e - x.length + 1 + (x.length - 1) = e by omega]
    exact hx.symm

theorem nodup_runsList (T : List α) : (runsList T).Nodup := by
  unfold runsList
  rw [List.Nodup, List.pairwise_flatMap]
  constructor
  · intro i hi
    refine List.Pairwise.filter _ ?_
    rw [List.pairwise_map]
    refine List.Pairwise.imp_of_mem ?_ List.nodup_range
    intro a b ha hb hab h
    have := congrArg List.length h
    simp at this ha hb hi; omega
  · refine List.Pairwise.imp_of_mem ?_ List.nodup_range
    intro a b _ _ hab x hx y hy hxy
    simp only [List.mem_filter, decide_eq_true_eq] at hx hy
    subst hxy
    have := hx.2.symm.trans hy.2
    omega

theorem length_eq_of_mem {β : Type} [DecidableEq β] {L R : List β} (h1 : L.Nodup) (h2 : R.Nodup) (h : ∀ x, x ∈ L ↔ x ∈ R) : L.length = R.length :=
  Nat.le_antisymm (h1.length_le_of_subset fun x hx => (h x).1 hx) (h2.length_le_of_subset fun x hx => (h x).2 hx)

variable {T : List α} {A : Auto α} {rep : Nat → List α}

/-- the runs that each state stands for -/
def Auto.runsOf (A : Auto α) (rep : Nat → List α) : List (List α) :=
  (List.range' 1 (A.m - 1)).flatMap fun s => (List.range (A.long s - A.long (A.link s).toNat)).map fun j => (rep s).drop ((rep s).length - (A.long (A.link s).toNat + 1 + j))

theorem Inv.mem_runsOf (h : Inv T A rep) {x : List α} : x ∈ A.runsOf rep ↔ x ≠ [] ∧ Run T x := by
  unfold Auto.runsOf
  simp only [List.mem_flatMap, List.mem_range'_1, List.mem_map, List.mem_range]
  constructor
  · rintro ⟨s, hs, j, hj, rfl⟩
    have hsm : s < A.m := by omega
    have hlong := h.long s hsm
    refine ⟨?_, (h.run hsm).mono (List.drop_suffix _ _)⟩
    intro k
    have := congrArg List.length k
    simp at this; omega
  · rintro ⟨h1, h2⟩
    have hpos : 0 < x.length := List.length_pos_iff.2 h1
    obtain ⟨s, hs, k1, k2⟩ := h.cover x h2
    have hs0 : s ≠ 0 := by
      rintro rfl
      have := k1.length_le
      rw [h.root] at this; simp only [List.length_nil] at this; omega
    obtain ⟨t, g1, g2, g3, g4, g5⟩ := h.link s hs hs0
    have hlt : (rep t).length < x.length := by
      rcases Nat.lt_or_ge (rep t).length x.length with g | g
      · exact g
      · have := h.inj t s g1 hs (k2.between (List.suffix_of_suffix_length_le k1 g3 g) g3)
        subst this; omega
    have hlong := h.long s hs
    have hlongt := h.long t g1
    have hxl := k1.length_le
    refine ⟨s, by omega, x.length - 1 - (rep t).length, ?_, ?_⟩
    · rw [g2]; simp only [Int.toNat_natCast]; omega
    · rw [g2]; simp only [Int.toNat_natCast]
      have := List.suffix_iff_eq_drop.1 k1
      rw [show A.long t + 1 + (x.length - 1 - (rep t).length) = x.length by omega]
      exact this.symm

theorem Inv.nodup_runsOf (h : Inv T A rep) : (A.runsOf rep).Nodup := by
  unfold Auto.runsOf
  rw [List.Nodup, List.pairwise_flatMap]
  constructor
  · intro s hs
    simp only [List.mem_range'_1] at hs
    have hlong := h.long s (by omega)
    rw [List.pairwise_map]
    refine List.Pairwise.imp_of_mem ?_ List.nodup_range
    intro a b ha hb hab k
    have := congrArg List.length k
    simp at this ha hb; omega
  · refine List.Pairwise.imp_of_mem ?_ (List.nodup_range' (step := 1))
    intro s s' hs hs' hne x hx y hy hxy
    subst hxy
    simp only [List.mem_range'_1, List.mem_map, List.mem_range] at hs hs' hx hy
    obtain ⟨j, hj, hxj⟩ := hx
    obtain ⟨j', hj', hxj'⟩ := hy
    have key : ∀ s j, 1 ≤ s ∧ s < 1 + (A.m - 1) → j < A.long s - A.long (A.link s).toNat → (rep s).drop ((rep s).length - (A.long (A.link s).toNat + 1 + j)) = x → Alike T x (rep s) := by
      intro s j hs hj hx
      obtain ⟨t, g1, g2, g3, g4, g5⟩ := h.link s (by omega) (by omega)
      have hlong := h.long s (by omega)
      have hlongt := h.long t g1
      rw [g2] at hx hj
      simp only [Int.toNat_natCast] at hx hj
      refine g5 x (by rw [← hx]; exact List.drop_suffix _ _) ?_
      rw [← hx]; simp; omega
    exact hne (h.inj s s' (by omega) (by omega) ((key s j hs hj hxj).symm.trans (key s' j' hs' hj' hxj')))

theorem spanSum_eq (A : Auto α) (rep : Nat → List α) : ∀ (n k : Nat) (x : Int), (∀ s, k ≤ s → s < k + n → A.long (A.link s).toNat ≤ A.long s) →
    A.spanSum n k x = x + (((List.range' k n).flatMap fun s => (List.range (A.long s - A.long (A.link s).toNat)).map fun j => (rep s).drop ((rep s).length - (A.long (A.link s).toNat + 1 + j))).length : Nat) := by
  intro n
  induction n with
  | zero => intro k x _; simp [Auto.spanSum]
  | succ n ih =>
    intro k x hle
    simp only [Auto.spanSum, List.range'_succ, List.flatMap_cons, List.length_append, List.length_map, List.length_range]
    rw [ih (k + 1) _ (fun s h1 h2 => hle s (by omega) (by omega))]
    have := hle k (Nat.le_refl _) (by omega)
    omega

theorem Good.runs (h : Good T A rep) : A.spanSum (A.m - 1) 1 0 = (nRuns T : Nat) := by
  rw [spanSum_eq A rep (A.m - 1) 1 0]
  · have h1 := fun x => h.inv.mem_runsOf (x := x)
    have h2 := h.inv.nodup_runsOf
    have : (A.fresh.runsOf rep).length = nRuns T := length_eq_of_mem h2 (nodup_runsList T) (fun x => by rw [h1, mem_runsList])
    rw [← this]
    show 0 + _ = _
    rw [Int.zero_add]; rfl
  · intro s h1 h2
    obtain ⟨t, g1, g2, g3, g4, _⟩ := h.inv.link s (show s < A.m by omega) (by omega)
    have g2' : A.link s = (t : Int) := g2
    have e1 : A.long s = (rep s).length := h.inv.long s (show s < A.m by omega)
    have e2 : A.long t = (rep t).length := h.inv.long t g1
    rw [g2']; simp only [Int.toNat_natCast]; omega

theorem Good.at (h : Good T A rep) (L : List α) (i : Nat) (x : Nat × Nat) (hx : (A.trace 0 0 L)[i]? = some x) :
    i < L.length ∧ x.2 ≤ i + 1 ∧ x.2 = longS T (L.take (i + 1)) (i + 1) ∧ (A.fin x.1 : Int) - x.2 = firstS T ((L.take (i + 1)).drop (i + 1 - x.2)) := by
  have hi : i < L.length := by
    have := (List.getElem?_eq_some_iff.1 hx).1
    rwa [Auto.trace_length] at this
  obtain ⟨h1, ⟨r, r1, r2, r3, r4, r5⟩, h2⟩ := h.trace L i x hx
  have hl : (L.take (i + 1)).length = i + 1 := by simp; omega
  have hle := r1.length_le
  have hr : r = (L.take (i + 1)).drop (i + 1 - x.2) := by
    have := List.suffix_iff_eq_drop.1 r1
    rwa [hl, r2] at this
  refine ⟨hi, by omega, (longS_eq (by omega) ?_ ?_).symm, ?_⟩
  · rw [hl, ← hr]; exact r3
  · intro j hj hjn hrun
    have := h2 _ (List.drop_suffix _ _) hrun
    rw [List.length_drop, hl] at this; omega
  · rw [← hr, firstS_of r4 r5, r2]

theorem Good.ends (h : Good T A rep) (L : List α) : (A.trace 0 0 L).map (·.2) = endsS T L := by
  apply List.ext_getElem
  · simp [endsS, Auto.trace_length]
  · intro i h1 h2
    have hi : i < (A.trace 0 0 L).length := by simpa using h1
    have := h.at L i _ (List.getElem?_eq_getElem hi)
    rw [List.getElem_map, this.2.2.1]
    simp [endsS]

theorem best_pick (A : Auto α) (L : List α) : ∀ (l : List (Nat × Nat)) (i : Nat) (x : Nat × Int × Int), (∀ j d, l[j]? = some d → (A.fin d.1 : Int) - d.2 = firstS T ((L.take (i + j + 1)).drop (i + j + 1 - d.2))) → A.best l i x = pick T L (l.map (·.2)) i x := by
  intro l
  induction l with
  | nil => intro i x _; rfl
  | cons d l ih =>
    intro i x hd
    simp only [Auto.best, List.map_cons, pick]
    have h0 := hd 0 d rfl
    rw [Nat.add_zero] at h0
    rw [h0]
    exact ih (i + 1) _ (fun j e he => by have := hd (j + 1) e he; rwa [show i + 1 + j = i + (j + 1) by omega])

theorem Good.best (h : Good T A rep) (L : List α) : A.best (A.trace 0 0 L) 0 (0, 0, 0) = bestS T L := by
  rw [best_pick (T := T) A L, h.ends]
  · rfl
  · intro j d hd
    have := (h.at L j d hd).2.2.2
    rwa [Nat.zero_add]

end
end Sam
end
section
set_option linter.unusedSectionVars false
set_option linter.unusedSimpArgs false
set_option linter.unusedVariables false
namespace Go.Proofs.YtbakoigejihnaaaGreatDoor.Wk
open Go.RowKit Go.AutoMap Go.Proofs.YtbakoigejihnaaaGreatDoorW.PrintWords Go.Proofs.YtbakoigejihnaaaGreatDoorW.PrintLast Go.Proofs.YtbakoigejihnaaaGreatDoorW.PrintMore
open Sam (Auto upd Inv countS firstS nRuns endsS bestS Run)

section
variable {w : World} {base ba : Nat} {A : Auto ByteArray} {W : List ByteArray}

theorem Built.wf (h : Built W A) : WF A W.length := by
  obtain ⟨rep, hg⟩ := h.good
  have := inv_wf hg.inv
  exact ⟨this.link, this.next, this.long⟩
theorem Built.pos (h : Built W A) : 0 < A.m := by have := h.low; omega
theorem Built.root (h : Built W A) : ∀ s, s < A.m → s ≠ 0 → A.link s ≠ -1 := by
  obtain ⟨rep, hg⟩ := h.good
  exact fun s h1 h2 => hg.root h1 h2
theorem Built.fin (h : Built W A) {s : Nat} (hs : s < A.m) : A.fin s ≤ W.length := by
  obtain ⟨rep, hg⟩ := h.good
  exact hg.fin_le hs

variable (A1 : Option Addr) (c1 : Nat) (T : List (ByteArray × Int)) (hT : Kd.C kW w A1 T.length T) (hlen : T.length ≤ 100000)
include hT hlen

theorem q_longest (hm : AutoMem 66 69 w base ba A) (hb : Built W A) (hW : W.length ≤ 8192) :
    Calls Tryz.prog 12 #[.pointer (some ⟨ba, 0, none⟩), .slice A1 T.length c1] w fun e w' => e = .returned (.tuple #[.int .i64 (bestS W (T.map (·.1))).2.1, .int .i64 (bestS W (T.map (·.1))).2.2, .int .i64 ((bestS W (T.map (·.1))).1 : Nat)]) ∧ Below w.heap.size w w' := by
  obtain ⟨bs, cap, xs, mb, h⟩ := hm
  obtain ⟨rep, hg⟩ := hb.good
  have h1 := longest_calls w base ba A W.length bs cap xs mb h hb.wf (by omega) hb.pos hb.root A1 c1 T hT hlen (by
    intro d hd
    obtain ⟨i, hi⟩ := List.mem_iff_getElem?.1 hd
    have h2 := hg.at _ i d hi
    have h3 := hg.trace _ i d hi
    rw [List.length_map] at h2
    exact ⟨h3.1, by omega⟩) (fun s hs => by have := hb.fin hs; omega)
  rwa [hg.best] at h1
end
end Go.Proofs.YtbakoigejihnaaaGreatDoor.Wk
end
