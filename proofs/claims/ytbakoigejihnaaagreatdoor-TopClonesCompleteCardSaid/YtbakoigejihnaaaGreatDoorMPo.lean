/- Common words; posts compared, sorted and made out of texts; copies of words and clones, walked. Conditions: none. -/
import Derived.Test.YtbakoigejihnaaaGreatDoorMFd
import Derived.Test.YtbakoigejihnaaaGreatDoorMCn
import Derived.Test.YtbakoigejihnaaaGreatDoorMSh2
import Derived.Lib.SliceRun
section
set_option linter.unusedSectionVars false
set_option linter.unusedSimpArgs false
set_option linter.unusedVariables false
namespace Go.Proofs.YtbakoigejihnaaaGreatDoor.Wp
open Go.RowKit Go.Proofs.YtbakoigejihnaaaGreatDoorW.PrintWords Go.Proofs.YtbakoigejihnaaaGreatDoorW.PrintLast Go.Proofs.YtbakoigejihnaaaGreatDoorW.PrintMore
open Ref (Lx txt txt_length)

/-- the words from a place on, in memory -/
theorem words_from {l : List Lx} (A : Option Addr) (c : Nat) (i : Nat) (hi : i ≤ l.length) (hc : l.length ≤ c) : ∃ A' c', (∀ W : World, (Instr.slice 23 (.slice A l.length c) (some (.int .i64 (i : Nat))) none none).run Tryz.prog W = .ok (.slice A' (l.drop i).length c') W) ∧ (l.drop i).length ≤ c' ∧ ∀ W : World, Kd.C kLx W A l.length l → Kd.C kLx W A' (l.drop i).length (l.drop i) := by
  obtain ⟨i0, hi0, hzz⟩ := Option.map_eq_some_iff.1 (show (Tryz.prog.info? 35).map (fun i => i.size) = some 2 by kernel_rfl)
  refine ⟨if c = i then A else A.map (·.add (i * 2)), c - i, fun W => ?_, by rw [List.length_drop]; omega, fun W hC => Kd.C_drop hC hi hc⟩
  have := cut_from (P := Tryz.prog) 23 35 .i64 Tryz.underlying23 hi0 2 hzz A l.length c (i : Nat) (by omega) (by omega) W
  rw [Int.toNat_natCast] at this
  rw [List.length_drop]
  exact this

theorem lcp_stop {x y : List ByteArray} (h : x = [] ∨ y = []) : Kl.lcp x y = 0 := by
  rcases h with rfl | rfl
  · rfl
  · cases x <;> rfl
theorem lcp_step {x y : List ByteArray} {n : Nat} (hx : n < x.length) (hy : n < y.length) : Kl.lcp (x.drop n) (y.drop n) = if x[n] = y[n] then Kl.lcp (x.drop (n + 1)) (y.drop (n + 1)) + 1 else 0 := by
  rw [List.drop_eq_getElem_cons hx, List.drop_eq_getElem_cons hy]; rfl
theorem txt_drop (l : List Lx) (i : Nat) : txt (l.drop i) = (txt l).drop i := by simp [txt, List.map_drop]

set_option maxHeartbeats 4000000 in
set_option maxRecDepth 100000 in
theorem common_calls (a b : Tx) (sa : TxSmall a) (sb : TxSmall b) (va : validT a = true) (vb : validT b = true) (A1 A2 : Option Addr) (c1 c2 : Nat) (w : World) (hM : MaxAt w) (h1 : Kd.C kLx w A1 a.f1.length a.f1) (h2 : Kd.C kLx w A2 b.f1.length b.f1) (hc1 : a.f1.length ≤ c1) (hc2 : b.f1.length ≤ c2)
    (i j : Nat) (hi : i ≤ a.f1.length) (hj : j ≤ b.f1.length) :
    Calls Tryz.prog 7 #[.agg #[.string a.f0, .slice A1 a.f1.length c1], .int .i64 (i : Nat), .agg #[.string b.f0, .slice A2 b.f1.length c2], .int .i64 (j : Nat)] w fun e w' =>
      e = .returned (.int .i64 (Kl.fwd (txt a.f1) i (txt b.f1) j : Nat)) ∧ Below w.heap.size w w' := by
  have HV1 := Aside0.mk (fun W hM hC => valid_calls a sa A1 c1 W hM hC)
  have HV2 := Aside0.mk (fun W hM hC => valid_calls b sb A2 c2 W hM hC)
  rw [va] at HV1
  rw [vb] at HV2
  obtain ⟨A3, c3, hs1, hl1, hd1⟩ := words_from A1 c1 i hi hc1
  obtain ⟨A4, c4, hs2, hl2, hd2⟩ := words_from A2 c2 j hj hc2
  have HC := Aside0.mk (And.intro h1 h2)
  have HD := Aside0.mk (And.intro hd1 hd2)
  have HM := Aside0.mk hM
  have HF : Aside0 (Kl.fwd (txt a.f1) i (txt b.f1) j = Kl.lcp (txt (a.f1.drop i)) (txt (b.f1.drop j))) := ⟨by rw [txt_drop, txt_drop]; rfl⟩
  have hla := sa.2.1
  have hlb := sb.2.1
  have HL := Aside0.mk (And.intro hla hlb)
  have HX : Aside0 ((a.f1.drop i).length ≤ 1000000 ∧ (b.f1.drop j).length ≤ 1000000) := ⟨by simp; omega⟩
  obtain ⟨pa, la⟩ := a
  obtain ⟨pb, lb⟩ := b
  simp only at HC HV1 HV2 hs1 hs2 HD HF hi hj hc1 hc2 HX ⊢
  generalize la.drop i = x at hs1 hl1 HD HF HX
  generalize lb.drop j = y at hs2 hl2 HD HF HX
  have b1 : decide ((i : Int) < 0) = false := by simp
  have b2 : decide ((j : Int) < 0) = false := by simp
  have b3 : decide (la.length < i) = false := by simp; omega
  have b4 : decide (lb.length < j) = false := by simp; omega
  clear h1 h2 hM hd1 hd2 hla hlb sa sb va vb hc1 hc2
  go_enter Tryz.func7, Tryz.ntmps7
  go_wp2_with fail
  obtain ⟨W2, hW2⟩ : ∃ W2, W2 = ((w.alloc (.cells #[.string pa, .slice A1 la.length c1] 25)).alloc (.cells #[.string pb, .slice A2 lb.length c2] 25)) := ⟨_, rfl⟩
  rw [← hW2]
  have q0 : w.heap.size < (w.alloc (.cells #[.string pa, .slice A1 la.length c1] 25)).heap.size := by simp
  have hh1 : W2.heap[w.heap.size]? = some (.cells #[.string pa, .slice A1 la.length c1] 25 (0, 0)) := by
    rw [hW2]
    exact (Below.heap_alloc _ _ _ q0).trans (heap_alloc_new _ _)
  have hh2 : W2.heap[w.heap.size + 1]? = some (.cells #[.string pb, .slice A2 lb.length c2] 25 (0, 0)) := by
    rw [hW2, show w.heap.size + 1 = (w.alloc (.cells #[.string pa, .slice A1 la.length c1] 25)).heap.size by simp]
    exact heap_alloc_new _ _
  have hB2 : Below w.heap.size w W2 := by rw [hW2]; exact ((Below.refl _ _).alloc (Nat.le_refl _) _).alloc (by simp) _
  have HH := Aside0.mk (And.intro hh1 hh2)
  have HB2 := Aside0.mk hB2
  clear hW2 q0 hh1 hh2 hB2
  (with_reducible refine (HV1.out _ (HM.out.of HB2.out) (Kd.C_below HC.out.1 HB2.out)).mono ?_)
  rintro e W3 ⟨rfl, hb3⟩
  have HB3 : Aside0 (Below w.heap.size w W3) := ⟨HB2.out.trans (hb3.mono HB2.out.size)⟩
  have HH3 : Aside0 (W3.heap[w.heap.size]? = some (.cells #[.string pa, .slice A1 la.length c1] 25 (0, 0)) ∧ W3.heap[w.heap.size + 1]? = some (.cells #[.string pb, .slice A2 lb.length c2] 25 (0, 0))) :=
    ⟨(hb3.block _ (blk_lt HH.out.1)).trans HH.out.1, (hb3.block _ (blk_lt HH.out.2)).trans HH.out.2⟩
  have k0 := blk_cell HH3.out.2 0
  have k1 := blk_cell HH3.out.2 1
  clear hb3 HH HB2
  go_wp2_with fail
  (with_reducible refine (HV2.out _ (HM.out.of HB3.out) (Kd.C_below HC.out.2 HB3.out)).mono ?_)
  rintro e W4 ⟨rfl, hb4⟩
  have HB4 : Aside0 (Below w.heap.size w W4) := ⟨HB3.out.trans (hb4.mono HB3.out.size)⟩
  have HH4 : Aside0 (W4.heap[w.heap.size]? = some (.cells #[.string pa, .slice A1 la.length c1] 25 (0, 0)) ∧ W4.heap[w.heap.size + 1]? = some (.cells #[.string pb, .slice A2 lb.length c2] 25 (0, 0))) :=
    ⟨(hb4.block _ (blk_lt HH3.out.1)).trans HH3.out.1, (hb4.block _ (blk_lt HH3.out.2)).trans HH3.out.2⟩
  clear hb4 k0 k1 HH3 HB3
  have k1 := blk_cell HH4.out.1 1
  have k3 := blk_cell HH4.out.2 1
  have HX1 := Aside0.mk (HD.out.1 W4 (Kd.C_below HC.out.1 HB4.out))
  have HX2 := Aside0.mk (HD.out.2 W4 (Kd.C_below HC.out.2 HB4.out))
  clear HC HD HV1 HV2 HM
  go_wp2_with fail
  go_quiet (fail)
  go_wp2_with fail
  go_loopg [11] x.length (fun kq v11 wr => ∃ n q : Nat, v11 = .int .i64 n ∧ wr = W4.drewN q ∧ Aside0 (n + kq = x.length) ∧ Aside0 (n ≤ y.length) ∧ Aside0 (Kl.lcp (txt x) (txt y) = n + Kl.lcp ((txt x).drop n) ((txt y).drop n)))
  case atStart => exact ⟨0, _, rfl, rfl, ⟨by omega⟩, ⟨Nat.zero_le _⟩, ⟨by simp⟩⟩
  case round =>
    obtain ⟨n, q, rfl, rfl, HK, HY, HE⟩ := hrel
    have hxl := HX.out.1
    have hyl := HX.out.2
    have hkx := HK.out
    have hky := HY.out
    by_cases hn : n < x.length
    · have bn : decide (n < x.length) = true := decide_eq_true hn
      by_cases hm : n < y.length
      · have bm : decide (n < y.length) = true := decide_eq_true hm
        obtain ⟨ad1, e1, w1⟩ := at_word HX1.out hn
        obtain ⟨ad2, e2, w2⟩ := at_word HX2.out hm
        subst e1 e2
        have hx : n < (txt x).length := by rw [txt_length]; exact hn
        have hy : n < (txt y).length := by rw [txt_length]; exact hm
        have hst := lcp_step hx hy
        rw [List.getD_eq_getElem?_getD, List.getElem?_eq_getElem hx, Option.getD_some] at w1
        rw [List.getD_eq_getElem?_getD, List.getElem?_eq_getElem hy, Option.getD_some] at w2
        have hnw : wrap64 ((n : Int) + 1) = ((n + 1 : Nat) : Int) := by rw [IntWalk.wrap64_in _ (by omega)]; omega
        by_cases he : (txt x)[n] = (txt y)[n]
        · rw [if_pos he] at hst
          have HS := Aside0.mk hst
          have hb : ((txt x)[n].toList == (txt y)[n].toList) = true := by rw [he]; exact beq_self_eq_true _
          generalize (txt x)[n] = s1 at w1 hb
          generalize (txt y)[n] = s2 at w2 hb
          clear hst he hxl hyl hkx hky hx hy
          have HN := Aside0.mk (And.intro hn hm)
          go_wp2_with fail
          go_quiet (fail)
          go_wp2_with fail
          go_roundg (x.length - (n + 1))
          case measure => have := HN.out; have := HK.out; omega
          case rel => exact ⟨n + 1, q + nq, by rw [hnw], rfl, ⟨by have := HN.out; omega⟩, ⟨by have := HN.out; omega⟩, ⟨by rw [HE.out, HS.out]; omega⟩⟩
        · rw [if_neg he] at hst
          have HS : Aside0 (Kl.fwd (txt la) i (txt lb) j = n) := ⟨by rw [HF.out, HE.out, hst]; rfl⟩
          have hb : ((txt x)[n].toList == (txt y)[n].toList) = false := by rw [beq_eq_false_iff_ne]; exact fun k => he (bytes_inj.1 k)
          generalize (txt x)[n] = s1 at w1 hb
          generalize (txt y)[n] = s2 at w2 hb
          clear hst he hxl hyl hkx hky hx hy
          go_wp2_with fail
          go_quiet (fail)
          go_wp2_with fail
          go_ret
          exact ⟨by rw [HS.out]; rfl, pw_below_drewN (pw_below_drewN HB4.out _) _⟩
      · have bm : decide (n < y.length) = false := decide_eq_false hm
        have HS : Aside0 (Kl.fwd (txt la) i (txt lb) j = n) := ⟨by rw [HF.out, HE.out, lcp_stop (.inr (List.drop_eq_nil_of_le (by rw [txt_length]; omega)))]; rfl⟩
        clear hxl hyl hkx hky
        go_wp2_with fail
        go_quiet (fail)
        go_wp2_with fail
        go_ret
        exact ⟨by rw [HS.out]; rfl, pw_below_drewN (pw_below_drewN HB4.out _) _⟩
    · have bn : decide (n < x.length) = false := decide_eq_false hn
      have HS : Aside0 (Kl.fwd (txt la) i (txt lb) j = n) := ⟨by rw [HF.out, HE.out, lcp_stop (.inl (List.drop_eq_nil_of_le (by rw [txt_length]; omega)))]; rfl⟩
      clear hxl hyl hkx hky
      go_wp2_with fail
      go_quiet (fail)
      go_wp2_with fail
      go_ret
      exact ⟨by rw [HS.out]; rfl, pw_below_drewN (pw_below_drewN HB4.out _) _⟩
end Go.Proofs.YtbakoigejihnaaaGreatDoor.Wp
end
section
set_option linter.unusedSectionVars false
set_option linter.unusedSimpArgs false
set_option linter.unusedVariables false
namespace Go.Proofs.YtbakoigejihnaaaGreatDoor.Ps
open Go.RowKit Go.Sort Go.Shelf Go.Proofs.YtbakoigejihnaaaGreatDoorW.PrintWords Go.Proofs.YtbakoigejihnaaaGreatDoorW.PrintLast Go.Proofs.YtbakoigejihnaaaGreatDoorW.PrintMore
open Wp (cmpI compare_ev grown_end)

def orI (a b c : Int) : Int := if a ≠ 0 then a else if b ≠ 0 then b else c
theorem or_ev (a b c : Int) : Ref.cmp_Or_int.f 10 [a, b, c] = some (orI a b c) := by
  unfold Ref.cmp_Or_int.f orI
  have e0 : ∀ a b c : Int, rd [a, b, c] 0 = a := fun _ _ _ => rfl
  have e1 : ∀ a b c : Int, rd [a, b, c] 1 = b := fun _ _ _ => rfl
  have e2 : ∀ a b c : Int, rd [a, b, c] 2 = c := fun _ _ _ => rfl
  have w1 : wrap64 1 = 1 := by kernel_rfl
  have w2 : wrap64 2 = 2 := by kernel_rfl
  have w3 : wrap64 3 = 3 := by kernel_rfl
  by_cases ha : a = 0
  · by_cases hb : b = 0
    · by_cases hc : c = 0
      · simp [Ref.cmp_Or_int.l0, e0, e1, e2, w1, w2, w3, ha, hb, hc]
      · simp [Ref.cmp_Or_int.l0, e0, e1, e2, w1, w2, w3, ha, hb, hc]
    · simp [Ref.cmp_Or_int.l0, e0, e1, e2, w1, w2, w3, ha, hb]
  · simp [Ref.cmp_Or_int.l0, e0, e1, e2, w1, w2, w3, ha]

theorem ints3 {W : World} {g : Nat} {e : TypeId} (a b c : Int) (h : W.heap[g]? = some (.cells #[.int .i64 a, .int .i64 b, .int .i64 c] e (0, 0))) : Kd.C (Kd.int .i64) W (some ⟨g, 0, none⟩) ([a, b, c] : List Int).length [a, b, c] := by
  refine ⟨rfl, by simp, fun _ => ⟨_, rfl, fun j p hp => ⟨[.int .i64 p], rfl, rfl, fun i u hu => ?_⟩⟩⟩
  have hi : i = 0 := by
    rcases i with _ | i
    · rfl
    · simp at hu
  subst hi
  have hu' : u = .int .i64 p := by simpa using hu.symm
  subst hu'
  refine World.news_of_block h (j * 1 + 0) _ ?_
  rcases j with _ | _ | _ | j <;> simp at hp ⊢
  all_goals first | exact hp | skip

set_option maxHeartbeats 8000000 in
set_option maxRecDepth 100000 in
theorem compare_calls (x0 x1 x2 y0 y1 y2 : Int) (w : World) :
    Calls Tryz.prog 135 #[.agg #[.int .i64 x0, .int .i64 x1, .int .i64 x2], .agg #[.int .i64 y0, .int .i64 y1, .int .i64 y2]] w
      fun e w' => e = .returned (.int .i64 (orI (cmpI x0 y0) (cmpI x1 y1) (cmpI x2 y2))) ∧ ∃ q os', w' = grow (w.drewN q) os' := by
  have hc := fun x y W => Ref.cmp_Compare_int.calls x y _ W (compare_ev x y)
  have HCmp := Aside0.mk hc
  have ho : ∀ (a b c : Int) (W : World) (g : Nat) (e : TypeId), W.heap[g]? = some (.cells #[.int .i64 a, .int .i64 b, .int .i64 c] e (0, 0)) → Calls Tryz.prog 86 #[.slice (some ⟨g, 0, none⟩) 3 3] W fun e w' => e = .returned (.int .i64 (orI a b c)) ∧ Drawn0 W w' :=
    fun a b c W g e h => Ref.cmp_Or_int.calls 10 (some ⟨g, 0, none⟩) 3 [a, b, c] _ W (ints3 a b c h) (by simp) (or_ev a b c)
  have HOr := Aside0.mk ho
  clear hc ho
  go_enter Tryz.func135, Tryz.ntmps135
  go_wp2_with fail
  obtain ⟨W2, hW2⟩ : ∃ W2, W2 = ((w.alloc (.cells #[.int .i64 x0, .int .i64 x1, .int .i64 x2] 134)).alloc (.cells #[.int .i64 y0, .int .i64 y1, .int .i64 y2] 134)) := ⟨_, rfl⟩
  rw [← hW2]
  have h1 : W2.heap[w.heap.size]? = some (.cells #[.int .i64 x0, .int .i64 x1, .int .i64 x2] 134 (0, 0)) := by rw [hW2, heap_alloc_old _ _ (by simp)]; exact heap_alloc_new _ _
  have h2 : W2.heap[w.heap.size + 1]? = some (.cells #[.int .i64 y0, .int .i64 y1, .int .i64 y2] 134 (0, 0)) := by
    rw [hW2]
    have := heap_alloc_new (w.alloc (.cells #[.int .i64 x0, .int .i64 x1, .int .i64 x2] 134)) (.cells #[.int .i64 y0, .int .i64 y1, .int .i64 y2] 134)
    rwa [show (w.alloc (.cells #[.int .i64 x0, .int .i64 x1, .int .i64 x2] 134)).heap.size = w.heap.size + 1 from by simp] at this
  have HG : Aside0 (W2 = grow (w.drewN 0) #[.cells #[.int .i64 x0, .int .i64 x1, .int .i64 x2] 134, .cells #[.int .i64 y0, .int .i64 y1, .int .i64 y2] 134]) := ⟨by rw [hW2, alloc_eq_grow, alloc_eq_grow, grow_grow]; rfl⟩
  have a0 : W2.cell? ⟨w.heap.size, 0, none⟩ = some (.int .i64 x0) := World.news_of_block h1 0 _ rfl
  have a1 : W2.cell? ⟨w.heap.size, 1, none⟩ = some (.int .i64 x1) := World.news_of_block h1 1 _ rfl
  have a2 : W2.cell? ⟨w.heap.size, 2, none⟩ = some (.int .i64 x2) := World.news_of_block h1 2 _ rfl
  have b0 : W2.cell? ⟨w.heap.size + 1, 0, none⟩ = some (.int .i64 y0) := World.news_of_block h2 0 _ rfl
  have b1 : W2.cell? ⟨w.heap.size + 1, 1, none⟩ = some (.int .i64 y1) := World.news_of_block h2 1 _ rfl
  have b2 : W2.cell? ⟨w.heap.size + 1, 2, none⟩ = some (.int .i64 y2) := World.news_of_block h2 2 _ rfl
  have e1 : W2.heap.size ≠ w.heap.size := World.new_ne W2 _ a0
  have e2 : W2.heap.size ≠ w.heap.size + 1 := World.new_ne W2 _ b0
  clear hW2 h1 h2
  generalize w.heap.size + 1 = bb at b0 b1 b2 e2 ⊢
  generalize w.heap.size = ba at a0 a1 a2 e1 ⊢
  go_region_held3 (fun w' => w'.cell? ⟨ba, 0, none⟩ = some (.int .i64 x0) ∧ w'.cell? ⟨ba, 1, none⟩ = some (.int .i64 x1) ∧ w'.cell? ⟨ba, 2, none⟩ = some (.int .i64 x2) ∧
      w'.cell? ⟨bb, 0, none⟩ = some (.int .i64 y0) ∧ w'.cell? ⟨bb, 1, none⟩ = some (.int .i64 y1) ∧ w'.cell? ⟨bb, 2, none⟩ = some (.int .i64 y2)) (go_keep)
    (first | (go_at_call 60; refine (HCmp.out _ _ _).mono ?_; rintro e w' ⟨rfl, ⟨nd, rfl⟩⟩) | (go_at_call 86; refine (HOr.out _ _ _ _ _ _ (by exact heap_alloc_new W2 _)).mono ?_; rintro e w' ⟨rfl, ⟨nd, rfl⟩⟩))
  all_goals
    clear a0 a1 a2 b0 b1 b2
    go_wp2
    go_ret
    exact ⟨rfl, grown_end HG.out _ _ _⟩

abbrev SP := Ref.S134
abbrev kP : Kd SP := Ref.k134
abbrev TP : TypeId := 134
instance : Inhabited SP := ⟨Ref.z134⟩
/-- how compare orders -/
def cmpP (x y : SP) : Int := orI (cmpI x.f0 y.f0) (cmpI x.f1 y.f1) (cmpI x.f2 y.f2)
def encP (x : SP) : List Value := [.int .i64 x.f0, .int .i64 x.f1, .int .i64 x.f2]
theorem ltP (x y : SP) : ltOf cmpP x y = decide (x.f0 < y.f0 ∨ x.f0 = y.f0 ∧ (x.f1 < y.f1 ∨ x.f1 = y.f1 ∧ x.f2 < y.f2)) := by
  unfold ltOf cmpP orI cmpI
  rw [Bool.eq_iff_iff]
  simp only [decide_eq_true_eq]
  repeat' split
  all_goals omega
theorem swoP : SWO (ltOf cmpP) where
  irrefl x := by rw [ltP]; simp
  trans x y z h1 h2 := by rw [ltP] at *; simp only [decide_eq_true_eq] at *; omega
  ntrans x y z h1 h2 := by rw [ltP] at *; simp only [decide_eq_false_iff_not] at *; omega
theorem cmpLays (blk off size : Nat) (w : World) : CmpLays Tryz.prog 135 #[] encP 3 cmpP blk off size w :=
  fun _ _ _ _ x y => compare_calls x.f0 x.f1 x.f2 y.f0 y.f1 y.f2 _
/-- sorted rows of the same posts are the same row -/
theorem sorted_eq {a b : List SP} (h : a.Perm b) (ha : a.Pairwise (fun x y => ltOf cmpP y x = false)) (hb : b.Pairwise (fun x y => ltOf cmpP y x = false)) : a = b := by
  refine List.Perm.eq_of_pairwise (le := fun x y => ltOf cmpP y x = false) ?_ ha hb h
  intro x y _ _ h1 h2
  rw [ltP, decide_eq_false_iff_not] at h1 h2
  obtain ⟨x0, x1, x2⟩ := x
  obtain ⟨y0, y1, y2⟩ := y
  simp only at h1 h2
  obtain rfl : x0 = y0 := by omega
  obtain rfl : x1 = y1 := by omega
  obtain rfl : x2 = y2 := by omega
  rfl

theorem C_of_holdsK {w : World} {g : Nat} {l : List SP} (h : HoldsK encP 3 w g 0 l.toArray) (hl : l.length ≤ 100000) : Kd.C kP w (some ⟨g, 0, none⟩) l.length l := by
  refine ⟨rfl, by omega, fun _ => ⟨_, rfl, fun j p hj => ⟨encP p, rfl, Ref.k134_mk w p, fun i u hu => ?_⟩⟩⟩
  have hjl : j < l.length := (List.getElem?_eq_some_iff.1 hj).1
  have hp : l.toArray[j]! = p := by
    rw [getElem!_pos _ j (by simpa using hjl)]
    have := (List.getElem?_eq_some_iff.1 hj).2
    simpa using this
  have hi : i < 3 := by
    have := (List.getElem?_eq_some_iff.1 hu).1
    simpa [encP] using this
  have := (h.cell (i := j) (c := i) (by simpa using hjl) hi).1
  rw [hp, Nat.zero_add] at this
  have e : (⟨g, 0, none⟩ : Addr).add (j * kP.sz + i) = ⟨g, j * 3 + i, none⟩ := by
    show (⟨g, 0, none⟩ : Addr).add (j * 3 + i) = _
    simp [Addr.add]
    omega
  rw [e, this]
  rw [getElem!_pos (encP p) i (by simpa [encP] using hi)]
  rw [List.getElem?_eq_getElem (by simpa [encP] using hi)] at hu
  exact hu

theorem sort_calls (w : World) (base : Nat) (v : Value) (l : List SP) (hR : Kd.R kP TP w base Wp.Yes v l) (hl : l.length ≤ 100000) :
    Calls Tryz.prog 134 #[v, .func (.func 135) #[] #[]] w fun e w' => e = .returned (.tuple #[]) ∧ Below base w w' ∧
      ∃ ys : List SP, ys.Perm l ∧ ys.Pairwise (fun a b => ltOf cmpP b a = false) ∧ ∃ A1 c1, v = .slice A1 l.length c1 ∧ l.length ≤ c1 ∧ Kd.C kP w' A1 l.length ys := by
  have hreads := Kd.R_reads hR
  obtain ⟨_, inner, hown, hrep⟩ := hR
  rcases hown.2 with ⟨hv, hn⟩ | ⟨g, cap, cur, hv, hg, hrest⟩
  · subst hv
    have hnil : l = [] := List.eq_nil_of_length_eq_zero (by simpa using hn)
    subst hnil
    have := AnyF.slices_SortFunc_none Tryz.sortPost none 0 (.func (.func 135) #[] #[]) w
    exact this.mono fun e w' ⟨h1, h2⟩ => ⟨h1, by rw [h2]; exact Below.refl _ _, [], List.Perm.refl _, List.Pairwise.nil, none, 0, rfl, Nat.le_refl _, ⟨rfl, by simp, fun h => by simp at h⟩⟩
  · subst hv
    have hb : base ≤ g := hg
    have hgl : g < w.heap.size := own_lt hown g rfl
    obtain ⟨A', c', hA, hcap, _⟩ := hreads
    injection hA with hA1 hA2 hA3
    have hH : HoldsK encP 3 w g 0 l.toArray := by
      intro t ht
      rw [size_flatK] at ht
      have ht2 : t < l.length * 3 := by simpa using ht
      have hi : t / 3 < l.length := by omega
      rw [get_flatK _ _ _ _ ht, Nat.zero_add, World.ownsRow.cellAt hown t (by show t < l.length * 3; exact ht2)]
      refine ⟨?_, World.ownsRow.frozenAt hown t⟩
      have hM := hrep.2 (t / 3) _ (List.getElem?_eq_getElem hi)
      have hcs := Ref.k134_openM hM
      have hat : inner[t]? = ((inner.drop (t / 3 * kP.sz)).take kP.sz)[t % 3]? := by
        rw [List.getElem?_take, List.getElem?_drop]
        have e : kP.sz = 3 := rfl
        rw [e, if_pos (by omega)]
        congr 1; omega
      have e2 : l.toArray[t / 3]! = l[t / 3] := by
        rw [getElem!_pos _ (t / 3) (by simpa using hi)]; simp
      rw [hat, hcs, e2]
      show (encP l[t / 3])[t % 3]? = some (id (encP l[t / 3])[t % 3]!)
      have hlt : t % 3 < (encP l[t / 3]).length := by simp [encP]; omega
      rw [getElem!_pos (encP l[t / 3]) (t % 3) hlt]
      exact List.getElem?_eq_getElem hlt
    have eg : ∀ args w, (callFunc 135 args).run Tryz.prog w = .ok (.enter 135 args) w := enters_of Tryz.func135 (by kernel_rfl) rfl
    have hcall := AnyQ.slices_SortFunc Tryz.sortPost 3 Tryz.isAgg134 Tryz.sizeOf134 encP (fun _ => rfl) (fun x v hv => by simp [encP] at hv; rcases hv with rfl | rfl | rfl <;> rfl) cmpP swoP 135 #[] g 0 cap l.toArray w eg (cmpLays g 0 l.toArray.size w) hH hgl (by simp; omega)
    change Calls Tryz.prog 134 _ _ _ at hcall
    have hcall' : Calls Tryz.prog 134 #[.slice (some ⟨g, 0, none⟩) l.length cap, .func (.func 135) #[] #[]] w fun e w' => e = .returned (.tuple #[]) ∧ ∃ d' n os, PermIn 0 l.length l.toArray d' ∧ SortedIn (ltOf cmpP) 0 l.length d' ∧ w' = sortWorldK encP 3 w g 0 n d' os := by simpa using hcall
    refine hcall'.mono ?_
    rintro e w' ⟨rfl, d', n, os, hp, hs, rfl⟩
    have hsz : d'.size = l.length := by simpa using hp.1
    have hperm : d'.toList.Perm l := by
      have := hp.2.2
      rwa [show d'.extract 0 l.length = d' from by rw [← hsz]; simp, show l.toArray.extract 0 l.length = l.toArray from by simp] at this
    refine ⟨rfl, ?_, d'.toList, hperm, ?_, _, _, rfl, by omega, ?_⟩
    · refine ⟨rfl, rfl, rfl, by simp [sortWorldK, grow, putRowK, putRow, mapBlock, Sort.ahead], fun k hk => ?_⟩
      have : g ≠ k := by omega
      show ((mapBlock (Sort.ahead w n) g (putCells id 0 (flatK encP 3 d'))).heap ++ os)[k]? = _
      rw [Array.getElem?_append_left (by simp [mapBlock, Sort.ahead]; omega)]
      simp [mapBlock, Array.getElem?_modify, this, Sort.ahead]
    · rw [List.pairwise_iff_getElem]
      intro i j hi hj hij
      have h := hs i j (Nat.zero_le _) hij (by simpa [hsz] using hj)
      rw [getElem!_pos _ j (by simpa using hj), getElem!_pos _ i (by simpa using hi)] at h
      simpa using h
    · have h2 : HoldsK encP 3 (putRowK encP 3 (Sort.ahead w n) g 0 d') g 0 d' :=
        holds_putRow id (Sort.ahead w n) g 0 (flatK encP 3 l.toArray) _ hH (by simp [hsz])
      have h3 : HoldsK encP 3 (grow (putRowK encP 3 (Sort.ahead w n) g 0 d') os) g 0 d' := holdsK_grow encP 3 _ os g 0 d' (by simpa [putRowK, putRow, mapBlock, Sort.ahead] using hgl) h2
      have h4 := C_of_holdsK (l := d'.toList) (by simpa using h3) (by simpa [hsz] using hl)
      have e5 : d'.toList.length = l.length := by simpa using hsz
      rw [e5] at h4
      exact h4
end Go.Proofs.YtbakoigejihnaaaGreatDoor.Ps
end
section
set_option linter.unusedSectionVars false
set_option linter.unusedSimpArgs false
set_option linter.unusedVariables false
namespace Go.Proofs.YtbakoigejihnaaaGreatDoor.Ps
open Go.RowKit Go.Proofs.YtbakoigejihnaaaGreatDoorW.PrintWords Go.Proofs.YtbakoigejihnaaaGreatDoorW.PrintLast Go.Proofs.YtbakoigejihnaaaGreatDoorW.PrintMore

theorem eqP (d : Nat) (w : World) (x0 y0 x1 y1 x2 y2 : Int) :
    (Op.equalIn (d + 2) TP (.agg #[.int .i64 x0, .int .i64 x1, .int .i64 x2]) (.agg #[.int .i64 y0, .int .i64 y1, .int .i64 y2])).run Tryz.prog w = .ok (x0 == y0 && (x1 == y1 && (x2 == y2))) w := by
  refine eqA_of Tryz.underlying134 (by kernel_rfl) ?_
  refine eqf_cons (by rfl) (by go_simp; rfl) (by go_simp; rfl) (by go_simp) ?_
  refine eqf_cons (by rfl) (by go_simp; rfl) (by go_simp; rfl) (by go_simp) ?_
  exact eqf_last (by rfl) (by go_simp; rfl) (by go_simp; rfl) (by go_simp)
def poEq (x y : SP) : Bool := x.f0 == y.f0 && (x.f1 == y.f1 && (x.f2 == y.f2))
theorem poEq_iff (x y : SP) : poEq x y = true ↔ x = y := by
  obtain ⟨a, b, c⟩ := x
  obtain ⟨a', b', c'⟩ := y
  simp [poEq]
def posEq : List SP → List SP → Bool
  | [], [] => true
  | x :: xs, y :: ys => poEq x y && posEq xs ys
  | _, _ => false
theorem posEq_iff : ∀ xs ys : List SP, posEq xs ys = true ↔ xs = ys
  | [], [] => by simp [posEq]
  | [], y :: ys => by simp [posEq]
  | x :: xs, [] => by simp [posEq]
  | x :: xs, y :: ys => by simp [posEq, poEq_iff, posEq_iff xs ys]
theorem rd_po {l : List SP} {i : Nat} (hi : i < l.length) : Ref.rd_T134 l (i : Int) = l[i] := by
  unfold Ref.rd_T134
  rw [Int.toNat_natCast, List.getD_eq_getElem?_getD, List.getElem?_eq_getElem hi]; rfl

set_option maxHeartbeats 4000000 in
set_option maxRecDepth 100000 in
theorem equal_calls (w : World) (A1 A2 : Option Addr) (c1 c2 : Nat) (xs ys : List SP) (h1 : Kd.C kP w A1 xs.length xs) (h2 : Kd.C kP w A2 ys.length ys) (hn : xs.length ≤ 1000000) (hm : ys.length ≤ 1000000) :
    Calls Tryz.prog 93 #[.slice A1 xs.length c1, .slice A2 ys.length c2] w fun e w' => e = .returned (.bool (posEq xs ys)) ∧ Drawn0 w w' := by
  have HC1 := Aside0.mk h1
  have HC2 := Aside0.mk h2
  clear h1 h2
  by_cases hl : xs.length = ys.length
  · have HL := Aside0.mk hl
    have b0 : ((xs.length : Int) != (ys.length : Int)) = false := by rw [bne_eq_false_iff_eq, hl]
    have b1 : ((xs.length : Int) == (ys.length : Int)) = true := by rw [beq_iff_eq, hl]
    clear hl
    go_enter Tryz.func93, Tryz.ntmps93
    go_wp2_with fail
    go_loopg [13] xs.length (fun kq v13 wr => ∃ k q : Nat, v13 = .int .i64 k ∧ wr = w.drewN q ∧ Aside0 (k + kq = xs.length) ∧ Aside0 (posEq xs ys = posEq (xs.drop k) (ys.drop k)))
    case atStart => exact ⟨0, 0, rfl, rfl, ⟨by omega⟩, ⟨rfl⟩⟩
    case round =>
      obtain ⟨k, q, rfl, rfl, HK, HE⟩ := hrel
      by_cases hk : k < xs.length
      · have hkb : decide ((k : Int) < (xs.length : Int)) = true := by simpa using hk
        have hk2 : k < ys.length := by rw [← HL.out]; exact hk
        obtain ⟨ad1, e1, p0, p1, p2⟩ := Ref.at_T134 HC1.out (k : Int) (by omega) (by omega)
        obtain ⟨ad2, e2, q0, q1, q2⟩ := Ref.at_T134 HC2.out (k : Int) (by omega) (by omega)
        subst e1 e2
        rw [rd_po hk, Int.toNat_natCast] at p0 p1 p2
        rw [rd_po hk2, Int.toNat_natCast] at q0 q1 q2
        have HE' : Aside0 (posEq xs ys = (poEq xs[k] ys[k] && posEq (xs.drop (k + 1)) (ys.drop (k + 1)))) := ⟨by
          rw [HE.out, List.drop_eq_getElem_cons hk, List.drop_eq_getElem_cons hk2]; rfl⟩
        generalize xs[k] = x at p0 p1 p2 HE'
        generalize ys[k] = y at q0 q1 q2 HE'
        have he : ∀ d W, (Op.equalIn (d + 2) 134 (.agg #[.int .i64 x.f0, .int .i64 x.f1, .int .i64 x.f2]) (.agg #[.int .i64 y.f0, .int .i64 y.f1, .int .i64 y.f2])).run Tryz.prog W = .ok (poEq x y) W := fun d W => eqP d W _ _ _ _ _ _
        generalize poEq x y = b at he HE'
        have hkb2 : decide ((k : Int) < (ys.length : Int)) = true := by simpa using hk2
        clear HE
        cases b with
        | true =>
          go_wp2_with fail
          go_quiet (fail)
          go_wp2_with fail
          go_roundg (gk - 1)
          case measure => have := HK.out; omega
          case rel => exact ⟨k + 1, _, by go_num, rfl, ⟨by have := HK.out; omega⟩, ⟨by rw [HE'.out, Bool.true_and]⟩⟩
        | false =>
          go_wp2_with fail
          go_quiet (fail)
          go_wp2_with fail
          go_ret
          exact ⟨by rw [HE'.out]; rfl, ⟨_, World.drewN_drewN _ _ _⟩⟩
      · have hkb : decide ((k : Int) < (xs.length : Int)) = false := by simpa using hk
        go_wp2_with fail
        go_ret
        refine ⟨?_, ⟨_, rfl⟩⟩
        rw [HE.out, List.drop_of_length_le (by omega), List.drop_of_length_le (by have := HL.out; omega)]; rfl
  · have b0 : ((xs.length : Int) != (ys.length : Int)) = true := by rw [bne_iff_ne]; omega
    have b1 : ((xs.length : Int) == (ys.length : Int)) = false := by rw [beq_eq_false_iff_ne]; omega
    have hr : posEq xs ys = false := by
      rw [Bool.eq_false_iff, Ne, posEq_iff]; rintro rfl; exact hl rfl
    rw [hr]
    clear hl hr
    go_enter Tryz.func93, Tryz.ntmps93
    go_wp2_with fail
    go_ret
    exact ⟨rfl, ⟨0, rfl⟩⟩
end Go.Proofs.YtbakoigejihnaaaGreatDoor.Ps
end
section
set_option linter.unusedSectionVars false
set_option linter.unusedSimpArgs false
set_option linter.unusedVariables false
namespace Go.Proofs.YtbakoigejihnaaaGreatDoor.Ps
open Go.RowKit Go.Sort Go.Proofs.YtbakoigejihnaaaGreatDoorW.PrintWords Go.Proofs.YtbakoigejihnaaaGreatDoorW.PrintLast Go.Proofs.YtbakoigejihnaaaGreatDoorW.PrintMore
open Ref (Lx txt txt_length)
open Wp (Tx TxSmall validT kTx kLx kPr TPr prS Yes MaxAt at_tx at_pr prints_calls PrPost)

theorem infoPo : (Tryz.prog.info? TP).map (fun i => (i.zero, i.size, i.bytes)) = some (some (.agg #[.int .i64 0, .int .i64 0, .int .i64 0]), 3, 24) := by kernel_rfl
/-- the posts of a text -/
def postsT (k w i : Nat) (t : Tx) : List SP := (prS k w (txt t.f1)).map fun p => ⟨p.1, (i : Nat), p.2⟩
/-- the posts of the first texts -/
def postsU (T : List Tx) (k w : Nat) : Nat → List SP
  | 0 => []
  | i + 1 => postsU T k w i ++ postsT k w i (T.getD i ⟨ByteArray.empty, []⟩)
/-- posts in order -/
def sortP (l : List SP) : List SP := l.mergeSort (fun x y => !ltOf cmpP y x)
theorem sortP_perm (l : List SP) : (sortP l).Perm l := List.mergeSort_perm _ _
theorem sortP_sorted (l : List SP) : (sortP l).Pairwise (fun x y => ltOf cmpP y x = false) := by
  have := List.pairwise_mergeSort (le := fun x y => !ltOf cmpP y x) (fun a b c h1 h2 => by
    rw [Bool.not_eq_true'] at *
    exact swoP.ntrans c b a h2 h1) (fun a b => by
    by_cases h : ltOf cmpP b a = true
    · have : ltOf cmpP a b = false := by
        rw [ltP] at *; simp only [decide_eq_true_eq, decide_eq_false_iff_not] at *; omega
      simp [this]
    · simp [h]) l
  exact this.imp fun h => by simpa using h
theorem sorted_is {l ys : List SP} (hp : ys.Perm l) (hs : ys.Pairwise (fun x y => ltOf cmpP y x = false)) : ys = sortP l :=
  sorted_eq (hp.trans (sortP_perm l).symm) hs (sortP_sorted l)
theorem sortP_length (l : List SP) : (sortP l).length = l.length := (sortP_perm l).length_eq

set_option maxHeartbeats 8000000 in
set_option maxRecDepth 100000 in
theorem posts_calls (T : List Tx) (A : Option Addr) (c : Nat) (w : World) (hM : MaxAt w) (hC : Kd.C kTx w A T.length T) (hS : ∀ t, t ∈ T → TxSmall t) (hv : ∀ t, t ∈ T → validT t = true) (hT : T.length ≤ 1)
    (k wi : Nat) (hk0 : 1 ≤ k) (hk1 : k ≤ 1024) (hw0 : 1 ≤ wi) (hw1 : wi ≤ 1024) (hP : (postsU T k wi T.length).length ≤ 100000) (hPr : ∀ t, t ∈ T → (prS k wi (txt t.f1)).length ≤ 100000) :
    Calls Tryz.prog 94 #[.slice A T.length c, .int .i64 (k : Nat), .int .i64 (wi : Nat)] w fun e w' => ∃ A1 c1, e = .returned (.slice A1 (sortP (postsU T k wi T.length)).length c1) ∧ (sortP (postsU T k wi T.length)).length ≤ c1 ∧
      Kd.C kP w' A1 (sortP (postsU T k wi T.length)).length (sortP (postsU T k wi T.length)) ∧ Below w.heap.size w w' ∧ (∀ ad, A1 = some ad → w.heap.size ≤ ad.block) := by
  have HM := Aside0.mk hM
  have HC := Aside0.mk hC
  have HS := Aside0.mk hS
  have HV := Aside0.mk hv
  have HT := Aside0.mk hT
  have HP := Aside0.mk hP
  have HPr := Aside0.mk hPr
  clear hM hC hS hv hT hP hPr
  go_enter Tryz.func94, Tryz.ntmps94
  go_wp2_with fail
  go_loopg [7, 16] T.length (fun gg v7 v16 wr => ∃ i : Nat, v16 = .int .i64 i ∧ Aside0 (i + gg = T.length) ∧ Aside0 (Kd.R kP TP wr w.heap.size Yes v7 (postsU T k wi i)) ∧ Aside0 (Below w.heap.size w wr))
  case atStart => exact ⟨0, rfl, ⟨by omega⟩, ⟨Kd.R_nil _ _ _ _ _⟩, ⟨Below.refl _ _⟩⟩
  case round =>
    obtain ⟨i, rfl, HK, HR, HB⟩ := hrel
    obtain ⟨gq, hgq⟩ : ∃ gq, gq = gk := ⟨_, rfl⟩
    rw [← hgq] at HK
    have HGq := Aside0.mk hgq
    clear hgq
    by_cases hi : i < T.length
    · have hib : decide ((i : Int) < (T.length : Int)) = true := by simp; omega
      have hib2 : decide (i < T.length) = true := decide_eq_true hi
      obtain ⟨ad, A1, c1, eA, cw0, cw1, hc1, hC1⟩ := at_tx (Kd.C_below HC.out HB.out) hi
      subst eA
      have HCall := Aside0.mk (fun (W : World) (hM : MaxAt W) (hC : Kd.C kLx W A1 T[i].f1.length T[i].f1) => prints_calls T[i] (HS.out _ (List.getElem_mem hi)) (HV.out _ (List.getElem_mem hi)) A1 c1 W hM hC hc1 k wi hk0 hk1 hw0 hw1)
      have HC1 := Aside0.mk hC1
      have HU : Aside0 (postsU T k wi (i + 1) = postsU T k wi i ++ postsT k wi i T[i]) := ⟨by
        show _ ++ _ = _
        rw [List.getD_eq_getElem?_getD, List.getElem?_eq_getElem hi]; rfl⟩
      have HLn := Aside0.mk (HPr.out T[i] (List.getElem_mem hi))
      have HUl : Aside0 ((postsU T k wi i).length = 0) := ⟨by
        have := HT.out
        obtain rfl : i = 0 := by omega
        rfl⟩
      have HHi := Aside0.mk hi
      clear hC1 hc1
      generalize T[i] = ti at cw0 cw1 HC1 HCall HU HLn
      have HB0 : Aside0 (Below wr.heap.size wr (wr.alloc (.cells #[.string ti.f0, .slice A1 ti.f1.length c1] 25))) := ⟨(Below.refl _ _).alloc (Nat.le_refl _) _⟩
      go_wp2_with fail
      (with_reducible refine (HCall.out _ ((HM.out.of HB.out).of HB0.out) (Kd.C_below HC1.out HB0.out)).mono ?_)
      rintro e w2 ⟨v, rfl, hr, hb⟩
      have HB2 : Aside0 (Below wr.heap.size wr w2) := ⟨HB0.out.trans (hb.mono HB0.out.size)⟩
      obtain ⟨D, d, rfl, hd, hCd⟩ := Kd.R_reads hr
      have HCd : Aside0 (Kd.R kPr TPr w2 w.heap.size Yes (.slice D (prS k wi (txt ti.f1)).length d) (prS k wi (txt ti.f1))) := ⟨Kd.R_lower hr (Nat.le_trans HB.out.size HB0.out.size)⟩
      have HR2 := Aside0.mk (Kd.R_below HR.out HB2.out)
      have HB3 : Aside0 (Below w.heap.size w w2) := ⟨HB.out.trans (HB2.out.mono HB.out.size)⟩
      clear hr hb hd hCd cw0 cw1 HC1 HCall HB0 HB2 HB HR hib
      have HU' : Aside0 (postsT k wi i ti = (prS k wi (txt ti.f1)).map fun p => (⟨p.1, (i : Nat), p.2⟩ : SP)) := ⟨rfl⟩
      generalize postsT k wi i ti = pt at HU HU'
      generalize prS k wi (txt ti.f1) = ps at HCd HLn HU' ⊢
      go_wp2_with fail
      go_loopg [7, 30] ps.length (fun gg v7 v30 wr => ∃ m : Nat, v30 = .int .i64 m ∧ Aside0 (m + gg = ps.length) ∧ Aside0 (Kd.R kP TP wr w.heap.size Yes v7 (postsU T k wi i ++ (ps.take m).map fun p => (⟨p.1, (i : Nat), p.2⟩ : SP))) ∧ Aside0 (Below w.heap.size w wr) ∧ Aside0 (Kd.R kPr TPr wr w.heap.size Yes (.slice D ps.length d) ps))
      case atStart => exact ⟨0, rfl, ⟨by omega⟩, ⟨by simpa using HR2.out⟩, HB3, HCd⟩
      case round =>
        obtain ⟨m, rfl, HKm, HRm, HBm, HCm⟩ := hrel
        by_cases hm : m < ps.length
        · have hmb : decide ((m : Int) < (ps.length : Int)) = true := by simp; omega
          have hmb2 : decide (m < ps.length) = true := decide_eq_true hm
          obtain ⟨ad1, e1, q0, q1⟩ := at_pr (Kd.R_reads' HCm.out).2.2 hm
          subst e1
          have HTk : Aside0 (ps.take (m + 1) = ps.take m ++ [ps.getD m (0, 0)]) := ⟨by rw [List.take_succ_eq_append_getElem hm, List.getD_eq_getElem?_getD, List.getElem?_eq_getElem hm]; rfl⟩
          generalize ps.getD m (0, 0) = p at q0 q1 HTk
          obtain ⟨s, x⟩ := p
          simp only at q0 q1
          have HHm := Aside0.mk hm
          have HB4 : Aside0 (Below wr.heap.size wr (wr.alloc (.cells #[.int .i64 s, .int .i64 x] 88))) := ⟨(Below.refl _ _).alloc (Nat.le_refl _) _⟩
          have HR4 := Aside0.mk (Kd.R_below HRm.out HB4.out)
          have HB5 : Aside0 (Below w.heap.size w (wr.alloc (.cells #[.int .i64 s, .int .i64 x] 88))) := ⟨HBm.out.trans (HB4.out.mono HBm.out.size)⟩
          have HC4 := Aside0.mk (Kd.R_below HCm.out HB4.out)
          have HL4 : Aside0 ((postsU T k wi i ++ (ps.take m).map fun p => (⟨p.1, (i : Nat), p.2⟩ : SP)).length ≤ 100000) := ⟨by
            have := HUl.out
            have := HLn.out
            simp; omega⟩
          have HN4 : Aside0 (postsU T k wi i ++ (ps.take (m + 1)).map (fun p => (⟨p.1, (i : Nat), p.2⟩ : SP)) = (postsU T k wi i ++ (ps.take m).map (fun p => (⟨p.1, (i : Nat), p.2⟩ : SP))) ++ [⟨s, (i : Nat), x⟩]) := ⟨by rw [HTk.out, List.map_append, List.append_assoc]; rfl⟩
          clear HRm HBm HCm HB4 HTk
          generalize postsU T k wi i ++ (ps.take m).map (fun p => (⟨p.1, (i : Nat), p.2⟩ : SP)) = cur at HR4 HL4 HN4
          have hnew := heap_alloc_new wr (.cells #[.int .i64 s, .int .i64 x] 88)
          go_wp2_with ((with_reducible refine gate_builtin (b := .append) (xs := #[.tmp 34, .tmp 41]) rfl ?_); at_builtin; refine Kd.R_append kP (w0 := w) w.heap.size rfl (.tmp 34) (.tmp 41) 77 TP (.agg #[.int .i64 0, .int .i64 0, .int .i64 0]) 24 rfl Tryz.underlying77 infoPo rfl (by decide) (by omega) u7 cur ⟨s, (i : Nat), x⟩ [.int .i64 s, .int .i64 (i : Nat), .int .i64 x] (fun _ => True) (fun _ => False) rfl (by rw [World.size_alloc]; rfl) ?aP (fun _ hk => hk.elim) ?aF ?aO ?aB ?aS ?aL ?_)
          case aP => exact Ref.k134_mkM _ _ _ (⟨s, (i : Nat), x⟩ : SP)
          case aF => exact fun _ _ => trivial
          case aO => exact HR4.out
          case aB => exact HB5.out
          case aS => exact HB5.out.size
          case aL => have := HL4.out; omega
          intro v1 w5 ho hb hg hat
          have HO5 : Aside0 (Kd.R kP TP w5 w.heap.size Yes v1 (postsU T k wi i ++ (ps.take (m + 1)).map fun p => (⟨p.1, (i : Nat), p.2⟩ : SP))) := ⟨by rw [HN4.out]; exact ho⟩
          have HB6 := Aside0.mk hb
          have HC5 : Aside0 (Kd.R kPr TPr w5 w.heap.size Yes (.slice (some ad1) ps.length d) ps) := ⟨Kd.R_over' HC4.out (Kd.R_typed HR4.out) (fun q hq => by have h9 : q = TPr := (by simpa [show kPr.E = [] from rfl] using hq); rw [h9]; decide) hg⟩
          clear ho hb hg hat hnew
          go_wp2_with fail
          go_roundg (gk - 1)
          case measure => have := HKm.out; have := HHm.out; omega
          case rel =>
            have h8 := HLn.out
            have h7 := HHm.out
            have hw : wrap64 ((m : Int) + 1) = ((m + 1 : Nat) : Int) := by rw [IntWalk.wrap64_in _ (by omega)]; omega
            exact ⟨m + 1, by rw [hw], ⟨by have := HKm.out; have := HHm.out; omega⟩, HO5, HB6, HC5⟩
        · have hmb : decide ((m : Int) < (ps.length : Int)) = false := by simp; omega
          have hmb2 : decide (m < ps.length) = false := decide_eq_false hm
          have HN : Aside0 (Kd.R kP TP wr w.heap.size Yes u7 (postsU T k wi (i + 1))) := ⟨by
            rw [HU.out, HU'.out]
            have := HRm.out
            rwa [List.take_of_length_le (by omega)] at this⟩
          clear HRm hm
          go_wp2_with fail
          go_roundg (gq - 1)
          case measure => have := HK.out; have := HHi.out; have := HGq.out; omega
          case rel =>
            have h8 := HT.out
            have h7 := HHi.out
            have hw : wrap64 ((i : Int) + 1) = ((i + 1 : Nat) : Int) := by rw [IntWalk.wrap64_in _ (by omega)]; omega
            exact ⟨i + 1, by rw [hw], ⟨by have := HK.out; have := HHi.out; omega⟩, HN, HBm⟩
    · have hib : decide ((i : Int) < (T.length : Int)) = false := by simp; omega
      have hib2 : decide (i < T.length) = false := decide_eq_false hi
      have HE : Aside0 (i = T.length) := ⟨by have := HK.out; omega⟩
      rw [HE.out] at HR
      have HCall := Aside0.mk (sort_calls wr w.heap.size u7 (postsU T k wi T.length) HR.out HP.out)
      obtain ⟨A1, c1, hv1, hle, _⟩ := Kd.R_reads HR.out
      have HV1 := Aside0.mk (And.intro hv1 hle)
      have HBa := Aside0.mk (Kd.R_base HR.out)
      clear hv1 hle hi
      go_wp2_with fail
      (with_reducible refine HCall.out.mono ?_)
      rintro e w2 ⟨rfl, hb, ys, hp, hs, A2, c2, e2, hle2, hC2⟩
      have HF := Aside0.mk (And.intro (sorted_is hp hs) (And.intro e2 (And.intro hle2 (And.intro hC2 (HB.out.trans hb)))))
      clear hb hp hs e2 hle2 hC2 HCall
      go_wp2_with fail
      go_ret
      obtain ⟨h1, h2, h3, h4, h5⟩ := HF.out
      rw [sortP_length]
      exact ⟨A2, c2, by rw [← h2]; rfl, h3, by rw [← h1]; exact h4, h5, fun ad e => HBa.out _ (by rw [h2, e]; rfl)⟩
end Go.Proofs.YtbakoigejihnaaaGreatDoor.Ps
end
section
set_option linter.unusedSectionVars false
set_option linter.unusedSimpArgs false
set_option linter.unusedVariables false
namespace Go.Proofs.YtbakoigejihnaaaGreatDoor.Ps
open Go.RowKit Go.Proofs.YtbakoigejihnaaaGreatDoorW.PrintWords Go.Proofs.YtbakoigejihnaaaGreatDoorW.PrintLast Go.Proofs.YtbakoigejihnaaaGreatDoorW.PrintMore
open Ref (Lx txt txt_length)
open Wp (Tx TxSmall validT kTx kLx kPr TPr prS Yes MaxAt)

abbrev TLx : TypeId := 35
theorem infoLx : (Tryz.prog.info? TLx).map (fun i => (i.zero, i.size, i.bytes)) = some (some (.agg #[.string ⟨#[]⟩, .int .i64 0]), 2, 24) := by kernel_rfl
abbrev SCl := Ref.S37
abbrev kCl : Kd SCl := Ref.k37
abbrev TCl : TypeId := 37
theorem infoCl : (Tryz.prog.info? TCl).map (fun i => (i.zero, i.size, i.bytes)) = some (some (.agg #[.int .i64 0, .int .i64 0, .int .i64 0, .int .i64 0, .int .i64 0]), 5, 40) := by kernel_rfl
/-- a row of one's own without elements -/
theorem R_made0 {α : Type} (d : Kd α) (e : TypeId) (w : World) (g : Nat) (hg : w.heap[g]? = some (.cells #[] e (0, 0))) (base : Nat) (hb : base ≤ g) : Kd.R d e w base Yes (.slice (some ⟨g, 0, none⟩) 0 0) [] :=
  ⟨fun _ _ => trivial, [], ⟨by simp, .inr ⟨g, 0, #[], rfl, hb, hg, Nat.le_refl _, by simp [maxLen], by simp, by simp⟩⟩, by simp, fun j p h => by simp at h⟩
set_option maxHeartbeats 4000000 in
set_option maxRecDepth 100000 in
theorem clone_lx (l : List Lx) (A : Option Addr) (c : Nat) (w : World) (hC : Kd.C kLx w A l.length l) (hl : l.length ≤ 1000000) :
    Calls Tryz.prog 66 #[.slice A l.length c] w fun e w' => ∃ v, e = .returned v ∧ Kd.R kLx TLx w' w.heap.size Yes v l ∧ Below w.heap.size w w' := by
  have HC := Aside0.mk hC
  have HL := Aside0.mk hl
  have q22 : ∀ (w : World) (a : Option Addr) (n c n' c' : Nat), (binOp .eql 23 (.slice a n c) (.slice none n' c')).run Tryz.prog w = .ok (.bool a.isNone) w := fun w a n c n' c' => Lib.run_eql_slice_nil w _ _ a n c n' c' Tryz.underlying23
  clear hC hl
  cases A with
  | none =>
    have HN : Aside0 (l = []) := ⟨by
      rcases Nat.eq_zero_or_pos l.length with h | h
      · exact List.eq_nil_of_length_eq_zero h
      · obtain ⟨ad, e, _⟩ := HC.out.2.2 h; cases e⟩
    go_enter Tryz.func66, Tryz.ntmps66
    go_wp2_with fail
    go_ret
    exact ⟨_, rfl, by rw [HN.out]; exact Kd.R_nil _ _ _ _ _, Below.refl _ _⟩
  | some ad =>
    go_enter Tryz.func66, Tryz.ntmps66
    go_wp2_with ((with_reducible refine gate_builtin (b := .append) (xs := #[.tmp 5, .tmp 6]) rfl ?_); at_builtin; refine Kd.R_append_rows kLx (w0 := w) (W := w.alloc (.cells #[] TLx)) (Rr := kLx.K w) w.heap.size rfl (.tmp 5) (.tmp 6) 23 TLx (.agg #[.string ⟨#[]⟩, .int .i64 0]) 24 rfl Tryz.underlying23 infoLx rfl (by decide) (by omega) (.slice (some ⟨w.heap.size, 0, none⟩) 0 0) [] l (some ad) l.length c Yes (fun _ => False) rfl rfl ?aO ?aR ?aK (fun _ hk => hk.elim) (fun _ _ => trivial) ?aB ?aS ?aL ?_)
    case aO => exact R_made0 _ _ _ _ (heap_alloc_new w _) _ (Nat.le_refl _)
    case aR => exact ReadsRow.imp_ HC.out ((Below.refl _ _).alloc (Nat.le_refl _) _) (fun _ _ h => h)
    case aK => exact fun x cs h => by rw [Ref.k35_open h]; exact Ref.k35_mkM _ _ _ x
    case aB => exact (Below.refl _ _).alloc (Nat.le_refl _) _
    case aS => simp
    case aL => have := HL.out; simp; omega
    intro v1 w1 ho hb hg hat
    have HF := Aside0.mk (And.intro ho hb)
    clear ho hb hg hat
    go_wp2_with fail
    go_ret
    exact ⟨_, rfl, HF.out.1, HF.out.2⟩
set_option maxHeartbeats 4000000 in
set_option maxRecDepth 100000 in
theorem clone_cl (l : List SCl) (A : Option Addr) (c : Nat) (w : World) (hC : Kd.C kCl w A l.length l) (hl : l.length ≤ 1000000) :
    Calls Tryz.prog 9 #[.slice A l.length c] w fun e w' => ∃ v, e = .returned v ∧ Kd.R kCl TCl w' w.heap.size Yes v l ∧ Below w.heap.size w w' := by
  have HC := Aside0.mk hC
  have HL := Aside0.mk hl
  have q22 : ∀ (w : World) (a : Option Addr) (n c n' c' : Nat), (binOp .eql 29 (.slice a n c) (.slice none n' c')).run Tryz.prog w = .ok (.bool a.isNone) w := fun w a n c n' c' => Lib.run_eql_slice_nil w _ _ a n c n' c' Tryz.underlying29
  clear hC hl
  cases A with
  | none =>
    have HN : Aside0 (l = []) := ⟨by
      rcases Nat.eq_zero_or_pos l.length with h | h
      · exact List.eq_nil_of_length_eq_zero h
      · obtain ⟨ad, e, _⟩ := HC.out.2.2 h; cases e⟩
    go_enter Tryz.func9, Tryz.ntmps9
    go_wp2_with fail
    go_ret
    exact ⟨_, rfl, by rw [HN.out]; exact Kd.R_nil _ _ _ _ _, Below.refl _ _⟩
  | some ad =>
    go_enter Tryz.func9, Tryz.ntmps9
    go_wp2_with ((with_reducible refine gate_builtin (b := .append) (xs := #[.tmp 5, .tmp 6]) rfl ?_); at_builtin; refine Kd.R_append_rows kCl (w0 := w) (W := w.alloc (.cells #[] TCl)) (Rr := kCl.K w) w.heap.size rfl (.tmp 5) (.tmp 6) 29 TCl (.agg #[.int .i64 0, .int .i64 0, .int .i64 0, .int .i64 0, .int .i64 0]) 40 rfl Tryz.underlying29 infoCl rfl (by decide) (by omega) (.slice (some ⟨w.heap.size, 0, none⟩) 0 0) [] l (some ad) l.length c Yes (fun _ => False) rfl rfl ?aO ?aR ?aK (fun _ hk => hk.elim) (fun _ _ => trivial) ?aB ?aS ?aL ?_)
    case aO => exact R_made0 _ _ _ _ (heap_alloc_new w _) _ (Nat.le_refl _)
    case aR => exact ReadsRow.imp_ HC.out ((Below.refl _ _).alloc (Nat.le_refl _) _) (fun _ _ h => h)
    case aK => exact fun x cs h => by rw [Ref.k37_open h]; exact Ref.k37_mkM _ _ _ x
    case aB => exact (Below.refl _ _).alloc (Nat.le_refl _) _
    case aS => simp
    case aL => have := HL.out; simp; omega
    intro v1 w1 ho hb hg hat
    have HF := Aside0.mk (And.intro ho hb)
    clear ho hb hg hat
    go_wp2_with fail
    go_ret
    exact ⟨_, rfl, HF.out.1, HF.out.2⟩
end Go.Proofs.YtbakoigejihnaaaGreatDoor.Ps
end
section
set_option linter.unusedSectionVars false
set_option linter.unusedSimpArgs false
set_option linter.unusedVariables false
namespace Go.Proofs.YtbakoigejihnaaaGreatDoor.Ps
open Go.RowKit Go.Proofs.YtbakoigejihnaaaGreatDoorW.PrintWords Go.Proofs.YtbakoigejihnaaaGreatDoorW.PrintLast Go.Proofs.YtbakoigejihnaaaGreatDoorW.PrintMore
open Ref (Lx txt txt_length)
open Wp (Tx TxSmall validT kTx kLx kPr TPr prS Yes MaxAt)

def encSl (x : Option Addr × Nat × Nat) : Value := .slice x.1 x.2.1 x.2.2
/-- a text as it lies -/
abbrev Raw := ByteArray × Option Addr × Nat × Nat
abbrev kTr : Kd Raw := Kd.pair Kd.string (Kd.scalar encSl (fun _ => rfl))
abbrev TTx : TypeId := 25
theorem infoTx : (Tryz.prog.info? TTx).map (fun i => (i.zero, i.size, i.bytes)) = some (some (.agg #[.string ⟨#[]⟩, .slice none 0 0]), 2, 40) := by kernel_rfl
theorem kTr_open {w : World} {x : Raw} {cs : List Value} (h : kTr.K w x cs) : cs = [.string x.1, .slice x.2.1 x.2.2.1 x.2.2.2] := by
  obtain ⟨a, b, rfl, rfl, rfl⟩ := h; rfl
theorem kTr_mkM (w : World) (base : Nat) (ok : Nat → Prop) (x : Raw) : kTr.M w base ok x [.string x.1, .slice x.2.1 x.2.2.1 x.2.2.2] := ⟨[.string x.1], [.slice x.2.1 x.2.2.1 x.2.2.2], rfl, rfl, rfl⟩
theorem tx_one {W : World} {A : Option Addr} {t : Tx} {A1 : Option Addr} {c1 : Nat} (h : Kd.C kTr W A 1 [(t.f0, A1, t.f1.length, c1)]) (hc : t.f1.length ≤ c1) (hw : Kd.C kLx W A1 t.f1.length t.f1) : Kd.C kTx W A 1 [t] := by
  obtain ⟨_, _, h3⟩ := h
  refine ⟨rfl, by decide, fun _ => ?_⟩
  obtain ⟨ad, e, hcell⟩ := h3 (by omega)
  refine ⟨ad, e, fun j p hj => ?_⟩
  have hj0 : j = 0 := by
    rcases j with _ | j
    · rfl
    · simp at hj
  subst hj0
  have hp : p = t := by simpa using hj.symm
  subst hp
  obtain ⟨cs, hl, hK, hcc⟩ := hcell 0 _ rfl
  have := kTr_open hK
  exact ⟨cs, hl, by rw [this]; exact Ref.k25_mk W p hc hw, hcc⟩

set_option maxHeartbeats 4000000 in
set_option maxRecDepth 100000 in
theorem bsearch_none (A : Option Addr) (c : Nat) (s : ByteArray) (v : Value) (w : World) : Calls Tryz.prog 95 #[.slice A 0 c, .string s, v] w fun e w' => e = .returned (.tuple #[.int .i64 0, .bool false]) ∧ w' = w := by
  go_enter Tryz.func95, Tryz.ntmps95
  go_wp2_with fail
  go_loopg [9, 10] 0 (fun gg v9 v10 wr => v9 = .int .i64 0 ∧ v10 = .int .i64 0 ∧ wr = w)
  case atStart => exact ⟨rfl, rfl, rfl⟩
  case round =>
    obtain ⟨rfl, rfl, rfl⟩ := hrel
    go_wp2_with fail
    go_ret2
    exact ⟨rfl, rfl⟩
theorem find_none (A : Option Addr) (c : Nat) (s : ByteArray) (w : World) : Calls Tryz.prog 65 #[.slice A 0 c, .string s] w fun e w' => e = .returned (.tuple #[.int .i64 0, .bool false]) ∧ w' = w := by
  go_enter Tryz.func65, Tryz.ntmps65
  go_wp2_with fail
  (with_reducible refine (bsearch_none _ _ _ _ _).mono ?_)
  rintro e w' ⟨rfl, rfl⟩
  go_wp2_with fail
  go_ret2
  exact ⟨rfl, rfl⟩
theorem cutTx (A : Option Addr) (n c j : Nat) (hj : j ≤ n) (hc : n ≤ c) : ∀ W : World, (Instr.slice 32 (.slice A n c) none (some (.int .i64 (j : Nat))) none).run Tryz.prog W = .ok (.slice A j c) W := by
  obtain ⟨i0, hi0, hzz⟩ := Option.map_eq_some_iff.1 (show (Tryz.prog.info? TTx).map (fun i => i.size) = some 2 by kernel_rfl)
  intro W
  have := cut_to (P := Tryz.prog) 32 TTx .i64 Tryz.underlying32 hi0 A n c (j : Nat) (by omega) (by omega) hc W
  rwa [Int.toNat_natCast] at this
set_option maxHeartbeats 4000000 in
set_option maxRecDepth 100000 in
theorem grow_one (w : World) : Calls Tryz.prog 98 #[.slice none 0 0, .int .i64 1] w fun e w' => ∃ v, e = .returned v ∧ Kd.R kTr TTx w' w.heap.size Yes v [] ∧ Below w.heap.size w w' := by
  have h0 := cutTx none 0 0 0 (Nat.le_refl _) (Nat.le_refl _)
  simp only [Int.natCast_zero, Int.ofNat_zero] at h0
  go_enter Tryz.func98, Tryz.ntmps98
  go_wp2_with ((with_reducible refine gate_builtin (b := .append) (xs := #[.tmp 20, .tmp 21]) rfl ?_); at_builtin; refine Kd.R_append_zeros kTr (w0 := w) (W := w) w.heap.size rfl (.tmp 20) (.tmp 21) 32 3 TTx (.agg #[.string ⟨#[]⟩, .slice none 0 0]) 40 rfl Tryz.underlying32 Tryz.underlying3 infoTx rfl (by decide) (by omega) (.slice none 0 0) [] (⟨#[]⟩, none, 0, 0) 1 Yes rfl rfl (kTr_mkM _ _ _ _) (fun _ _ => trivial) (Kd.R_nil _ _ _ _ _) (by decide) (Below.refl _ _) (Nat.le_refl _) (by decide) ?_)
  intro v1 w1 ho hb hg hat
  obtain ⟨A, c, hv, hc, _⟩ := Kd.R_reads ho
  simp only [List.length_cons, List.length_nil, Nat.reduceAdd] at hv hc
  rw [hv] at ho ⊢
  have h1 := cutTx A 1 c 0 (by omega) hc
  simp only [Int.natCast_zero, Int.ofNat_zero] at h1
  have HR := Aside0.mk (Kd.R_take (m := 0) ho (by simp))
  have HB := Aside0.mk hb
  clear ho hb hg hat hv h0
  go_wp2_with fail
  go_ret
  exact ⟨_, rfl, by simpa using HR.out, HB.out⟩
set_option maxHeartbeats 4000000 in
set_option maxRecDepth 100000 in
/-- slices.Concat of nothing, one text and nothing -/
theorem concat_one (g b : Nat) (x : Raw) (c : Nat) (w : World) (hg : w.heap[g]? = some (.cells #[.slice none 0 0, .slice (some ⟨b, 0, none⟩) 1 1, .slice none 0 0] 32 (0, 0))) (hx : Kd.C kTr w (some ⟨b, 0, none⟩) 1 [x]) :
    Calls Tryz.prog 68 #[.slice (some ⟨g, 0, none⟩) 3 3] w fun e w' => ∃ v, e = .returned v ∧ Kd.R kTr TTx w' w.heap.size Yes v [x] ∧ Below w.heap.size w w' := by
  have HG := Aside0.mk hg
  have HX := Aside0.mk hx
  have g0 : w.cell? ⟨g, 0, none⟩ = some (.slice none 0 0) := blk_cell hg 0
  have g1 : w.cell? ⟨g, 1, none⟩ = some (.slice (some ⟨b, 0, none⟩) 1 1) := blk_cell hg 1
  have g2 : w.cell? ⟨g, 2, none⟩ = some (.slice none 0 0) := blk_cell hg 2
  clear hg hx
  go_enter Tryz.func68, Tryz.ntmps68
  go_wp2_with fail
  go_loopg [3, 11] 3 (fun gg v3 v11 wr => ∃ i : Nat, v11 = .int .i64 i ∧ v3 = .int .i64 (if i ≤ 1 then 0 else 1) ∧ Aside0 (i + gg = 3) ∧ wr = w)
  case atStart => exact ⟨0, rfl, rfl, ⟨rfl⟩, rfl⟩
  case round =>
    obtain ⟨i, rfl, rfl, HK, rfl⟩ := hrel
    have hi3 : i ≤ 3 := by have := HK.out; omega
    have hii : i = 0 ∨ i = 1 ∨ i = 2 ∨ i = 3 := by omega
    rcases hii with rfl | rfl | rfl | rfl
    · go_wp2_with fail
      go_roundg 2
      case measure => have := HK.out; omega
      case rel => exact ⟨1, rfl, rfl, ⟨rfl⟩, rfl⟩
    · go_wp2_with fail
      go_roundg 1
      case measure => have := HK.out; omega
      case rel => exact ⟨2, rfl, rfl, ⟨rfl⟩, rfl⟩
    · go_wp2_with fail
      go_roundg 0
      case measure => have := HK.out; omega
      case rel => exact ⟨3, rfl, rfl, ⟨rfl⟩, rfl⟩
    · go_wp2_with fail
      (with_reducible refine (grow_one wr).mono ?_)
      rintro e w2 ⟨v, rfl, hr, hb⟩
      have HR := Aside0.mk hr
      have HB := Aside0.mk hb
      clear hr hb g0 g1 g2
      obtain ⟨w, hw⟩ : ∃ w, w = wr := ⟨_, rfl⟩
      rw [← hw] at HR HB HG HX
      have HW := Aside0.mk hw
      clear hw
      go_wp2_with fail
      go_loopg [6, 27] 3 (fun gg v6 v27 wr => ∃ i : Nat, v27 = .int .i64 i ∧ Aside0 (i + gg = 3) ∧ Aside0 (Kd.R kTr TTx wr w.heap.size Yes v6 (if i ≤ 1 then [] else [x])) ∧ Aside0 (Below w.heap.size w wr))
      case atStart => exact ⟨0, rfl, ⟨rfl⟩, HR, HB⟩
      case round =>
        clear HR HB
        obtain ⟨i, rfl, HK, HR, HB⟩ := hrel
        have hG : wr.heap[g]? = some (.cells #[.slice none 0 0, .slice (some ⟨b, 0, none⟩) 1 1, .slice none 0 0] 32 (0, 0)) := (HB.out.block g (blk_lt HG.out)).trans HG.out
        have g0 : wr.cell? ⟨g, 0, none⟩ = some (.slice none 0 0) := blk_cell hG 0
        have g1 : wr.cell? ⟨g, 1, none⟩ = some (.slice (some ⟨b, 0, none⟩) 1 1) := blk_cell hG 1
        have g2 : wr.cell? ⟨g, 2, none⟩ = some (.slice none 0 0) := blk_cell hG 2
        have HXw := Aside0.mk (Kd.C_below HX.out HB.out)
        clear hG
        have hi3 : i ≤ 3 := by have := HK.out; omega
        have hii : i = 0 ∨ i = 1 ∨ i = 2 ∨ i = 3 := by omega
        rcases hii with rfl | rfl | rfl | rfl
        · go_wp2_with ((with_reducible refine gate_builtin (b := .append) (xs := #[.tmp 31, .tmp 32]) rfl ?_); at_builtin; refine Kd.R_append_rows kTr (w0 := w) (W := wr) (Rr := kTr.K wr) w.heap.size rfl (.tmp 31) (.tmp 32) 32 TTx (.agg #[.string ⟨#[]⟩, .slice none 0 0]) 40 rfl Tryz.underlying32 infoTx rfl (by decide) (by omega) u6 [] [] none 0 0 Yes (fun _ => False) rfl rfl ?aO ?aR ?aK (fun _ hk => hk.elim) (fun _ _ => trivial) ?aB ?aS ?aL ?_)
          case aO => exact HR.out
          case aR => exact ⟨rfl, by decide, fun h => absurd h (by decide)⟩
          case aK => exact fun x cs h => by rw [kTr_open h]; exact kTr_mkM _ _ _ x
          case aB => exact HB.out
          case aS => exact HB.out.size
          case aL => simp
          intro v1 w1 ho hb hg hat
          have HR' := Aside0.mk ho
          have HB' := Aside0.mk hb
          clear ho hb hg hat
          go_wp2_with fail
          go_roundg 2
          case measure => have := HK.out; omega
          case rel => exact ⟨1, rfl, ⟨rfl⟩, HR', HB'⟩
        · go_wp2_with ((with_reducible refine gate_builtin (b := .append) (xs := #[.tmp 31, .tmp 32]) rfl ?_); at_builtin; refine Kd.R_append_rows kTr (w0 := w) (W := wr) (Rr := kTr.K wr) w.heap.size rfl (.tmp 31) (.tmp 32) 32 TTx (.agg #[.string ⟨#[]⟩, .slice none 0 0]) 40 rfl Tryz.underlying32 infoTx rfl (by decide) (by omega) u6 [] [x] (some ⟨b, 0, none⟩) 1 1 Yes (fun _ => False) rfl rfl ?aO ?aR ?aK (fun _ hk => hk.elim) (fun _ _ => trivial) ?aB ?aS ?aL ?_)
          case aO => exact HR.out
          case aR => exact HXw.out
          case aK => exact fun x cs h => by rw [kTr_open h]; exact kTr_mkM _ _ _ x
          case aB => exact HB.out
          case aS => exact HB.out.size
          case aL => simp
          intro v1 w1 ho hb hg hat
          have HR' := Aside0.mk ho
          have HB' := Aside0.mk hb
          clear ho hb hg hat
          go_wp2_with fail
          go_roundg 1
          case measure => have := HK.out; omega
          case rel => exact ⟨2, rfl, ⟨rfl⟩, HR', HB'⟩
        · go_wp2_with ((with_reducible refine gate_builtin (b := .append) (xs := #[.tmp 31, .tmp 32]) rfl ?_); at_builtin; refine Kd.R_append_rows kTr (w0 := w) (W := wr) (Rr := kTr.K wr) w.heap.size rfl (.tmp 31) (.tmp 32) 32 TTx (.agg #[.string ⟨#[]⟩, .slice none 0 0]) 40 rfl Tryz.underlying32 infoTx rfl (by decide) (by omega) u6 [x] [] none 0 0 Yes (fun _ => False) rfl rfl ?aO ?aR ?aK (fun _ hk => hk.elim) (fun _ _ => trivial) ?aB ?aS ?aL ?_)
          case aO => exact HR.out
          case aR => exact ⟨rfl, by decide, fun h => absurd h (by decide)⟩
          case aK => exact fun x cs h => by rw [kTr_open h]; exact kTr_mkM _ _ _ x
          case aB => exact HB.out
          case aS => exact HB.out.size
          case aL => simp
          intro v1 w1 ho hb hg hat
          have HR' := Aside0.mk ho
          have HB' := Aside0.mk hb
          clear ho hb hg hat
          go_wp2_with fail
          go_roundg 0
          case measure => have := HK.out; omega
          case rel => exact ⟨3, rfl, ⟨rfl⟩, HR', HB'⟩

        · go_wp2_with fail
          go_ret
          rw [← HW.out]
          exact ⟨_, rfl, HR.out, HB.out⟩
end Go.Proofs.YtbakoigejihnaaaGreatDoor.Ps
end
