/- The chapter's example and the check of clones, walked. Conditions: none. -/
import Derived.Test.YtbakoigejihnaaaDoorMFd
import Derived.Test.YtbakoigejihnaaaDoorRE
import Derived.Test.YtbakoigejihnaaaDoorMKl
/- slices.Equal of clones: walked. -/
set_option linter.unusedSectionVars false
set_option linter.unusedSimpArgs false
set_option linter.unusedVariables false
namespace Go.Proofs.YtbakoigejihnaaaDoor.Wp
open Go.RowKit Go.Proofs.YtbakoigejihnaaaDoorW.PrintWords Go.Proofs.YtbakoigejihnaaaDoorW.PrintLast Go.Proofs.YtbakoigejihnaaaDoorW.PrintMore
abbrev SCl := Ref.S38
abbrev kCl := Ref.k38

def clEq (x y : SCl) : Bool := x.f0 == y.f0 && (x.f1 == y.f1 && (x.f2 == y.f2 && (x.f3 == y.f3 && (x.f4 == y.f4))))
theorem clEq_iff (x y : SCl) : clEq x y = true ↔ x = y := by
  obtain ⟨a, b, c, d, e⟩ := x
  obtain ⟨a', b', c', d', e'⟩ := y
  simp [clEq]
def clsEq : List SCl → List SCl → Bool
  | [], [] => true
  | x :: xs, y :: ys => clEq x y && clsEq xs ys
  | _, _ => false
theorem clsEq_iff : ∀ xs ys : List SCl, clsEq xs ys = true ↔ xs = ys
  | [], [] => by simp [clsEq]
  | [], y :: ys => by simp [clsEq]
  | x :: xs, [] => by simp [clsEq]
  | x :: xs, y :: ys => by simp [clsEq, clEq_iff, clsEq_iff xs ys]
theorem rd_cl {l : List SCl} {i : Nat} (hi : i < l.length) : Ref.rd_T38 l (i : Int) = l[i] := by
  unfold Ref.rd_T38
  rw [Int.toNat_natCast, List.getD_eq_getElem?_getD, List.getElem?_eq_getElem hi]; rfl

set_option maxHeartbeats 4000000 in
set_option maxRecDepth 100000 in
theorem equal_calls (w : World) (A1 A2 : Option Addr) (c1 c2 : Nat) (xs ys : List SCl) (h1 : Kd.C kCl w A1 xs.length xs) (h2 : Kd.C kCl w A2 ys.length ys) (hn : xs.length ≤ 1000000) (hm : ys.length ≤ 1000000) :
    Calls Tryd.prog 10 #[.slice A1 xs.length c1, .slice A2 ys.length c2] w fun e w' => e = .returned (.bool (clsEq xs ys)) ∧ Drawn0 w w' := by
  have HC1 := Aside0.mk h1
  have HC2 := Aside0.mk h2
  clear h1 h2
  by_cases hl : xs.length = ys.length
  · have HL := Aside0.mk hl
    have b0 : ((xs.length : Int) != (ys.length : Int)) = false := by rw [bne_eq_false_iff_eq, hl]
    have b1 : ((xs.length : Int) == (ys.length : Int)) = true := by rw [beq_iff_eq, hl]
    clear hl
    go_enter Tryd.func10, Tryd.ntmps10
    go_wp2_with fail
    go_loopg [13] xs.length (fun kq v13 wr => ∃ k q : Nat, v13 = .int .i64 k ∧ wr = w.drewN q ∧ Aside0 (k + kq = xs.length) ∧ Aside0 (clsEq xs ys = clsEq (xs.drop k) (ys.drop k)))
    case atStart => exact ⟨0, 0, rfl, rfl, ⟨by omega⟩, ⟨rfl⟩⟩
    case round =>
      obtain ⟨k, q, rfl, rfl, HK, HE⟩ := hrel
      by_cases hk : k < xs.length
      · have hkb : decide ((k : Int) < (xs.length : Int)) = true := by simpa using hk
        have hk2 : k < ys.length := by rw [← HL.out]; exact hk
        obtain ⟨ad1, e1, p0, p1, p2, p3, p4⟩ := Ref.at_T38 HC1.out (k : Int) (by omega) (by omega)
        obtain ⟨ad2, e2, q0, q1, q2, q3, q4⟩ := Ref.at_T38 HC2.out (k : Int) (by omega) (by omega)
        subst e1 e2
        rw [rd_cl hk, Int.toNat_natCast] at p0 p1 p2 p3 p4
        rw [rd_cl hk2, Int.toNat_natCast] at q0 q1 q2 q3 q4
        have HE' : Aside0 (clsEq xs ys = (clEq xs[k] ys[k] && clsEq (xs.drop (k + 1)) (ys.drop (k + 1)))) := ⟨by
          rw [HE.out, List.drop_eq_getElem_cons hk, List.drop_eq_getElem_cons hk2]; rfl⟩
        generalize xs[k] = x at p0 p1 p2 p3 p4 HE'
        generalize ys[k] = y at q0 q1 q2 q3 q4 HE'
        have he : ∀ d W, (Op.equalIn (d + 2) 38 (.agg #[.int .i64 x.f0, .int .i64 x.f1, .int .i64 x.f2, .int .i64 x.f3, .int .i64 x.f4]) (.agg #[.int .i64 y.f0, .int .i64 y.f1, .int .i64 y.f2, .int .i64 y.f3, .int .i64 y.f4])).run Tryd.prog W = .ok (clEq x y) W := fun d W => eqC d W _ _ _ _ _ _ _ _ _ _
        generalize clEq x y = b at he HE'
        have hkb2 : decide ((k : Int) < (ys.length : Int)) = true := by simpa using hk2
        clear HE
        cases b with
        | true =>
          go_wp2_with fail
          go_quiet (fail)
          go_wp2_with fail
          go_roundg (gk - 1)
          case measure => have := HK.out; omega
          case rel => exact ⟨k + 1, _, by go_num, rfl, ⟨by have := HK.out; omega⟩, ⟨by rw [HE'.out, Bool.true_and]⟩⟩
        | false =>
          go_wp2_with fail
          go_quiet (fail)
          go_wp2_with fail
          go_ret
          exact ⟨by rw [HE'.out]; rfl, ⟨_, World.drewN_drewN _ _ _⟩⟩
      · have hkb : decide ((k : Int) < (xs.length : Int)) = false := by simpa using hk
        go_wp2_with fail
        go_ret
        refine ⟨?_, ⟨_, rfl⟩⟩
        rw [HE.out, List.drop_of_length_le (by omega), List.drop_of_length_le (by have := HL.out; omega)]; rfl
  · have b0 : ((xs.length : Int) != (ys.length : Int)) = true := by rw [bne_iff_ne]; omega
    have b1 : ((xs.length : Int) == (ys.length : Int)) = false := by rw [beq_eq_false_iff_ne]; omega
    have hr : clsEq xs ys = false := by
      rw [Bool.eq_false_iff, Ne, clsEq_iff]; rintro rfl; exact hl rfl
    rw [hr]
    clear hl hr
    go_enter Tryd.func10, Tryd.ntmps10
    go_wp2_with fail
    go_ret
    exact ⟨rfl, ⟨0, rfl⟩⟩
end Go.Proofs.YtbakoigejihnaaaDoor.Wp

/- The closure of check: walked. -/
set_option linter.unusedSectionVars false
set_option linter.unusedSimpArgs false
set_option linter.unusedVariables false
namespace Go.Proofs.YtbakoigejihnaaaDoor.Wp
open Go.RowKit Go.MapG Go.MapKept Go.Proofs.YtbakoigejihnaaaDoorW.PrintWords Go.Proofs.YtbakoigejihnaaaDoorW.PrintLast Go.Proofs.YtbakoigejihnaaaDoorW.PrintMore
open Ref (Lx txt txt_length)

set_option maxHeartbeats 4000000 in
set_option maxRecDepth 100000 in
theorem same_calls (la lb : List Lx) (A1 A2 : Option Addr) (cc1 cc2 : Nat) (w : World) (b7 b4 b8 : Nat) (h7 : w.cell? ⟨b7, 0, none⟩ = some (.slice A1 la.length cc1)) (h8 : w.cell? ⟨b8, 0, none⟩ = some (.slice A2 lb.length cc2))
    (i j d : Nat) (h41 : w.cell? ⟨b4, 1, none⟩ = some (.int .i64 (i : Nat))) (h43 : w.cell? ⟨b4, 3, none⟩ = some (.int .i64 (j : Nat))) (hC1 : Kd.C kLx w A1 la.length la) (hC2 : Kd.C kLx w A2 lb.length lb)
    (hi : i + d < la.length) (hj : j + d < lb.length) (hla : la.length ≤ 1000000) (hlb : lb.length ≤ 1000000) :
    Calls Tryd.prog 31 #[.int .i64 (d : Nat), .pointer (some ⟨b7, 0, none⟩), .pointer (some ⟨b4, 0, none⟩), .pointer (some ⟨b8, 0, none⟩)] w
      fun e w' => e = .returned (.bool (((txt la).getD (i + d) ByteArray.empty).toList == ((txt lb).getD (j + d) ByteArray.empty).toList)) ∧ Drawn0 w w' := by
  obtain ⟨ad1, e1, q1⟩ := at_word hC1 hi
  subst e1
  obtain ⟨ad2, e2, q2⟩ := at_word hC2 hj
  subst e2
  generalize (txt la).getD (i + d) ByteArray.empty = s1 at q1 ⊢
  generalize (txt lb).getD (j + d) ByteArray.empty = s2 at q2 ⊢
  clear hC1 hC2
  go_enter Tryd.func31, Tryd.ntmps31
  go_wp2_with fail
  go_quiet (fail)
  go_wp2
  go_ret
  exact ⟨rfl, ⟨_, rfl⟩⟩
end Go.Proofs.YtbakoigejihnaaaDoor.Wp

/- Check of one clone: walked. -/
set_option linter.unusedSectionVars false
set_option linter.unusedSimpArgs false
set_option linter.unusedVariables false
namespace Go.Proofs.YtbakoigejihnaaaDoor.Wp
open Go.RowKit Go.MapG Go.MapKept Go.Proofs.YtbakoigejihnaaaDoorW.PrintWords Go.Proofs.YtbakoigejihnaaaDoorW.PrintLast Go.Proofs.YtbakoigejihnaaaDoorW.PrintMore
open Kl (Diag Cl Plc)
open Ref (Lx txt txt_length)

theorem two_boxes (W : World) (u v : Value) (e e' : TypeId) : ((W.alloc (.cells #[u] e)).alloc (.cells #[v] e')).drew.cell? ⟨W.heap.size, 0, none⟩ = some u ∧ ((W.alloc (.cells #[u] e)).alloc (.cells #[v] e')).drew.cell? ⟨W.heap.size + 1, 0, none⟩ = some v := by
  have h1 : ((W.alloc (.cells #[u] e)).alloc (.cells #[v] e')).heap[W.heap.size]? = some (.cells #[u] e (0, 0)) := by rw [heap_alloc_old _ _ (by simp)]; exact heap_alloc_new _ _
  have h2 : ((W.alloc (.cells #[u] e)).alloc (.cells #[v] e')).heap[W.heap.size + 1]? = some (.cells #[v] e' (0, 0)) := by
    have := heap_alloc_new (W.alloc (.cells #[u] e)) (.cells #[v] e')
    rwa [show (W.alloc (.cells #[u] e)).heap.size = W.heap.size + 1 from by simp] at this
  exact ⟨World.news_of_block h1 0 _ rfl, World.news_of_block h2 0 _ rfl⟩

set_option maxHeartbeats 8000000 in
set_option maxRecDepth 100000 in
theorem check_calls (ta tb : Tx) (A : Option Addr) (c : Nat) (w : World) (hC : Kd.C kTx w A 2 [ta, tb]) (ha : ta.f1.length = 5) (hb : tb.f1.length = 3)
    (hw : ∀ d, d < 3 → (txt ta.f1).getD (1 + d) ByteArray.empty = (txt tb.f1).getD d ByteArray.empty) (n : Int) (hn : n = 3 ∨ n = 4) :
    Calls Tryd.prog 19 #[.slice A 2 c, .agg #[.int .i64 0, .int .i64 1, .int .i64 1, .int .i64 0, .int .i64 3], .int .i64 n] w fun e w' => e = .returned (.int .i64 (if n = 4 then 13 else 0)) ∧ Below w.heap.size w w' := by
  have HC := Aside0.mk hC
  have HW := Aside0.mk hw
  clear hC hw
  go_enter Tryd.func19, Tryd.ntmps19
  go_wp2_with fail
  obtain ⟨W1, hW1⟩ : ∃ W1, W1 = w.alloc (.cells #[.int .i64 0, .int .i64 1, .int .i64 1, .int .i64 0, .int .i64 3] 38) := ⟨_, rfl⟩
  rw [← hW1]
  have hnew := heap_alloc_new w (.cells #[.int .i64 0, .int .i64 1, .int .i64 1, .int .i64 0, .int .i64 3] 38)
  have hb1 : Below w.heap.size w W1 := by rw [hW1]; exact (Below.refl _ _).alloc (Nat.le_refl _) _
  rw [← hW1] at hnew
  clear hW1
  have c0 : W1.cell? ⟨w.heap.size, 0, none⟩ = some (.int .i64 0) := World.news_of_block hnew 0 _ rfl
  have c1 : W1.cell? ⟨w.heap.size, 1, none⟩ = some (.int .i64 1) := World.news_of_block hnew 1 _ rfl
  have c2 : W1.cell? ⟨w.heap.size, 2, none⟩ = some (.int .i64 1) := World.news_of_block hnew 2 _ rfl
  have c3 : W1.cell? ⟨w.heap.size, 3, none⟩ = some (.int .i64 0) := World.news_of_block hnew 3 _ rfl
  have c4 : W1.cell? ⟨w.heap.size, 4, none⟩ = some (.int .i64 3) := World.news_of_block hnew 4 _ rfl
  obtain ⟨ad, A1, cc1, eA, p0, p1, hc1, hC1⟩ := at_tx (T := [ta, tb]) (Kd.C_below HC.out hb1) (i := 0) (by simp)
  subst eA
  obtain ⟨ad', A2, cc2, eA, q0, q1, hc2, hC2⟩ := at_tx (T := [ta, tb]) (Kd.C_below HC.out hb1) (i := 1) (by simp)
  obtain rfl : ad = ad' := by injection eA
  clear eA
  simp only [List.getElem_cons_zero, List.getElem_cons_succ] at p0 p1 hc1 hC1 q0 q1 hc2 hC2
  rw [ha] at p1 hc1 hC1
  rw [hb] at q1 hc2 hC2
  have HIn1 : Aside0 (∀ W, Below W1.heap.size W1 W → Calls Tryd.prog 30 #[.agg #[.string ta.f0, .slice A1 5 cc1], .int .i64 1, .int .i64 3] W fun e w' => e = .returned (.bool true) ∧ Below W.heap.size W w') := ⟨fun W hW => by
    have := Ref.clone_inside.calls ta.f0 A1 cc1 ta.f1 1 3 true W (by rw [ha]; exact Kd.C_below hC1 hW) (by omega) (by unfold Ref.clone_inside.f; rw [ha]; kernel_rfl)
    rw [ha] at this
    exact this⟩
  have HIn2 : Aside0 (∀ W, Below W1.heap.size W1 W → Calls Tryd.prog 30 #[.agg #[.string tb.f0, .slice A2 3 cc2], .int .i64 0, .int .i64 3] W fun e w' => e = .returned (.bool true) ∧ Below W.heap.size W w') := ⟨fun W hW => by
    have := Ref.clone_inside.calls tb.f0 A2 cc2 tb.f1 0 3 true W (by rw [hb]; exact Kd.C_below hC2 hW) (by omega) (by unfold Ref.clone_inside.f; rw [hb]; kernel_rfl)
    rw [hb] at this
    exact this⟩
  have HC1 := Aside0.mk hC1
  have HC2 := Aside0.mk hC2
  have HB1 := Aside0.mk hb1
  clear hC1 hC2 hb1 hnew
  have HBw : Aside0 (∀ W, Below W1.heap.size W1 W → Below w.heap.size w W) := ⟨fun W h => HB1.out.trans (h.mono HB1.out.size)⟩
  generalize w.heap.size = b4 at c0 c1 c2 c3 c4 ⊢
  have hbb : Below W1.heap.size W1 W1.drew := (Below.refl _ _).drew
  simp only [Nat.zero_mul, Nat.one_mul] at p0 p1 q0 q1
  have e0 : ad.add 0 = ad := by simp [Addr.add]
  rw [e0] at p0 p1
  have e2 : ad.add 2 = ⟨ad.block, ad.off + 2, none⟩ := by simp [Addr.add]
  rw [e2] at q0 q1
  clear e0 e2
  go_region_held3 (fun w' => w'.cell? ⟨b4, 0, none⟩ = some (.int .i64 0) ∧ w'.cell? ⟨b4, 1, none⟩ = some (.int .i64 1) ∧ w'.cell? ⟨b4, 2, none⟩ = some (.int .i64 1) ∧ w'.cell? ⟨b4, 3, none⟩ = some (.int .i64 0) ∧ w'.cell? ⟨b4, 4, none⟩ = some (.int .i64 3) ∧
      w'.cell? ad = some (.string ta.f0) ∧ w'.cell? ⟨ad.block, ad.off + 1, none⟩ = some (.slice A1 5 cc1) ∧ w'.cell? ⟨ad.block, ad.off + 2, none⟩ = some (.string tb.f0) ∧ w'.cell? ⟨ad.block, ad.off + 2 + 1, none⟩ = some (.slice A2 3 cc2))
    (first | go_keep | (go_split_ands; refine ⟨?_, ?_, ?_, ?_, ?_, ?_, ?_, ?_, ?_⟩ <;> exact (hbk.cell (World.block_lt_of_cell? _ _ (by assumption))).trans (by assumption)))
    (first | (go_at_call 30; with_reducible refine (HIn1.out _ (by assumption)).mono ?_; rintro e w' ⟨rfl, hbk⟩; have hbb := hbb.trans (hbk.mono hbb.size)) | (go_at_call 30; with_reducible refine (HIn2.out _ (by assumption)).mono ?_; rintro e w' ⟨rfl, hbk⟩; have hbb := hbb.trans (hbk.mono hbb.size)))
  clear hbk
  rename_i hS
  go_wp2_with fail
  obtain ⟨W3, hW3⟩ : ∃ W3, W3 = w' := ⟨_, rfl⟩
  rw [← hW3] at hS hbb ⊢
  clear hW3
  have HB3 := Aside0.mk hbb
  clear c0 c1 c2 c3 c4 p0 p1 q0 q1 hbb HIn1 HIn2
  obtain ⟨c0, c1, c2, c3, c4, p0, p1, q0, q1⟩ := hS
  have e4 : W3.heap.size ≠ b4 := World.new_ne W3 _ c0
  have e5 : W3.heap.size ≠ ad.block := World.new_ne W3 _ p0
  have e6 : W3.heap.size + 1 ≠ b4 := by have : b4 < W3.heap.size := World.block_lt_of_cell? W3 _ c0; omega
  have e7 : W3.heap.size + 1 ≠ ad.block := by have : ad.block < W3.heap.size := World.block_lt_of_cell? W3 _ p0; omega
  go_cut [7, 8] from 95 (fun v7 v8 wx => ∃ b7 b8 : Nat, v7 = .pointer (some ⟨b7, 0, none⟩) ∧ v8 = .pointer (some ⟨b8, 0, none⟩) ∧ wx.cell? ⟨b7, 0, none⟩ = some (.slice A1 5 cc1) ∧ wx.cell? ⟨b8, 0, none⟩ = some (.slice A2 3 cc2) ∧ Below W3.heap.size W3 wx)
  case first =>
    go_region_held3 (fun w' => w'.cell? ⟨b4, 0, none⟩ = some (.int .i64 0) ∧ w'.cell? ⟨b4, 2, none⟩ = some (.int .i64 1) ∧ w'.cell? ⟨ad.block, ad.off + 1, none⟩ = some (.slice A1 5 cc1) ∧ w'.cell? ⟨ad.block, ad.off + 2 + 1, none⟩ = some (.slice A2 3 cc2))
      (go_keep) (fail)
    all_goals
      go_wp2
      go_meet
      refine ⟨_, _, rfl, rfl, ?_, ?_, (((Below.refl _ _).alloc (Nat.le_refl _) _).alloc (by simp) _).drew⟩
      · first | exact (two_boxes W3 _ _ _ _).1 | exact (two_boxes W3 _ _ _ _).2
      · first | exact (two_boxes W3 _ _ _ _).2 | exact (two_boxes W3 _ _ _ _).1
  case rest =>
    obtain ⟨b7, b8, rfl, rfl, h7, h8, hbw⟩ := hcut
    have HBW := Aside0.mk (HB3.out.trans (hbw.mono HB3.out.size))
    have HWc : Aside0 (Below W1.heap.size W1 wc) := HBW
    replace c1 := (hbw.cell (World.block_lt_of_cell? _ _ c1)).trans c1
    replace c3 := (hbw.cell (World.block_lt_of_cell? _ _ c3)).trans c3
    replace c4 := (hbw.cell (World.block_lt_of_cell? _ _ c4)).trans c4
    clear hbw c0 c2 p0 p1 q0 q1 e4 e5 e6 e7
    have HCL : Aside0 (∀ (d m : Nat), d < 3 → Calls Tryd.prog 31 #[.int .i64 (d : Nat), .pointer (some ⟨b7, 0, none⟩), .pointer (some ⟨b4, 0, none⟩), .pointer (some ⟨b8, 0, none⟩)] (wc.drewN m)
        fun e w' => e = .returned (.bool true) ∧ Drawn0 (wc.drewN m) w') := ⟨fun d m hd => by
      have hbm : Below wc.heap.size wc (wc.drewN m) := ⟨rfl, rfl, rfl, Nat.le_refl _, fun _ _ => rfl⟩
      have := same_calls ta.f1 tb.f1 A1 A2 cc1 cc2 (wc.drewN m) b7 b4 b8 (by rw [ha]; exact h7) (by rw [hb]; exact h8) 1 0 d c1 c3 (by rw [ha]; exact Kd.C_below HC1.out (HWc.out.trans (hbm.mono HWc.out.size))) (by rw [hb]; exact Kd.C_below HC2.out (HWc.out.trans (hbm.mono HWc.out.size))) (by omega) (by omega) (by omega) (by omega)
      rw [HW.out d hd, Nat.zero_add] at this
      simpa using this⟩
    go_wp2_with fail
    go_loopg [110] 3 (fun gg v110 wr => ∃ d m : Nat, v110 = .int .i64 d ∧ wr = wc.drewN m ∧ Aside0 (d + gg = 3))
    case atStart => exact ⟨0, 0, rfl, rfl, ⟨rfl⟩⟩
    case round =>
      obtain ⟨d, m, rfl, rfl, HK⟩ := hrel
      by_cases hd : d < 3
      · have hdb : decide ((d : Int) < 3) = true := by simp; omega
        clear c1 c3 c4 h7 h8
        go_wp2_with fail
        (with_reducible refine (HCL.out d m hd).mono ?_)
        rintro e w' ⟨rfl, ⟨q, rfl⟩⟩
        rw [World.drewN_drewN]
        go_wp2_with fail
        go_roundg (gk - 1)
        case measure => have := HK.out; omega
        case rel => exact ⟨d + 1, m + q, by go_num, rfl, ⟨by have := HK.out; omega⟩⟩
      · have hdb : decide ((d : Int) < 3) = false := by simp; omega
        have HBm : Aside0 (Below w.heap.size w (wc.drewN m)) := ⟨by
          have hbm : Below wc.heap.size wc (wc.drewN m) := ⟨rfl, rfl, rfl, Nat.le_refl _, fun _ _ => rfl⟩
          exact HBw.out _ (HWc.out.trans (hbm.mono HWc.out.size))⟩
        clear HBw HCL HC1 HC2 HWc HBW HB3 HB1 HC HW hd
        rcases hn with rfl | rfl
        all_goals
          go_wp2_with fail
          go_ret
          exact ⟨rfl, HBm.out⟩

set_option maxHeartbeats 4000000 in
set_option maxRecDepth 100000 in
theorem Check_calls (ta tb : Tx) (A : Option Addr) (c : Nat) (w : World) (hM : MaxAt w) (hC : Kd.C kTx w A 2 [ta, tb]) (hS : ∀ t, t ∈ [ta, tb] → TxSmall t) (hr : rightT [ta, tb] = true) (ha : ta.f1.length = 5) (hb : tb.f1.length = 3)
    (hw : ∀ d, d < 3 → (txt ta.f1).getD (1 + d) ByteArray.empty = (txt tb.f1).getD d ByteArray.empty) (n : Int) (hn : n = 3 ∨ n = 4) :
    Calls Tryd.prog 11 #[.slice A 2 c, .agg #[.int .i64 0, .int .i64 1, .int .i64 1, .int .i64 0, .int .i64 3], .int .i64 n] w fun e w' => e = .returned (.int .i64 (if n = 4 then 13 else 0)) ∧ Below w.heap.size w w' := by
  have hb0 : Below w.heap.size w (w.alloc (.cells #[.int .i64 0, .int .i64 1, .int .i64 1, .int .i64 0, .int .i64 3] 38)) := (Below.refl _ _).alloc (Nat.le_refl _) _
  have hnew := heap_alloc_new w (.cells #[.int .i64 0, .int .i64 1, .int .i64 1, .int .i64 0, .int .i64 3] 38)
  have HR : Aside0 (Calls Tryd.prog 13 #[.slice A 2 c] (w.alloc (.cells #[.int .i64 0, .int .i64 1, .int .i64 1, .int .i64 0, .int .i64 3] 38)) fun e w' => e = .returned (.bool true) ∧ Below (w.alloc (.cells #[.int .i64 0, .int .i64 1, .int .i64 1, .int .i64 0, .int .i64 3] 38)).heap.size (w.alloc (.cells #[.int .i64 0, .int .i64 1, .int .i64 1, .int .i64 0, .int .i64 3] 38)) w') := ⟨by
    have := right_calls [ta, tb] A c _ (hM.of hb0) (Kd.C_below hC hb0) (by simp) hS
    change Calls Tryd.prog 13 #[.slice A 2 c] _ fun e w' => e = .returned (.bool (rightT [ta, tb])) ∧ _ at this
    rwa [hr] at this⟩
  have HC := Aside0.mk hC
  have HK := fun (W : World) (hC : Kd.C kTx W A 2 [ta, tb]) => check_calls ta tb A c W hC ha hb hw n hn
  have HK2 := Aside0.mk HK
  have HB0 := Aside0.mk hb0
  have HN := Aside0.mk hnew
  clear hC hM hS hr hw HK hb0 hnew ha hb
  go_enter Tryd.func11, Tryd.ntmps11
  go_wp2_with fail
  (with_reducible refine (HR.out).mono ?_)
  rintro e w1 ⟨rfl, hb1⟩
  have hn1 := hb1.block _ (Array.getElem?_eq_some_iff.1 HN.out).1
  rw [HN.out] at hn1
  have c0 : w1.cell? ⟨w.heap.size, 0, none⟩ = some (.int .i64 0) := World.news_of_block hn1 0 _ rfl
  have c1 : w1.cell? ⟨w.heap.size, 1, none⟩ = some (.int .i64 1) := World.news_of_block hn1 1 _ rfl
  have c2 : w1.cell? ⟨w.heap.size, 2, none⟩ = some (.int .i64 1) := World.news_of_block hn1 2 _ rfl
  have c3 : w1.cell? ⟨w.heap.size, 3, none⟩ = some (.int .i64 0) := World.news_of_block hn1 3 _ rfl
  have c4 : w1.cell? ⟨w.heap.size, 4, none⟩ = some (.int .i64 3) := World.news_of_block hn1 4 _ rfl
  have HB1 : Aside0 (Below w.heap.size w w1) := ⟨HB0.out.trans (hb1.mono HB0.out.size)⟩
  clear hb1 hn1 HN HB0 HR
  go_wp2_with fail
  (with_reducible refine (HK2.out _ (Kd.C_below HC.out HB1.out)).mono ?_)
  rintro e w2 ⟨rfl, hb2⟩
  have HB2 : Aside0 (Below w.heap.size w w2) := ⟨HB1.out.trans (hb2.mono HB1.out.size)⟩
  clear hb2 c0 c1 c2 c3 c4 HK2 hn
  go_wp2_with fail
  all_goals
    go_ret
    exact ⟨rfl, HB2.out⟩
end Go.Proofs.YtbakoigejihnaaaDoor.Wp

/- Whether texts are few: what the reference function computes, and that the code computes it. -/
set_option linter.unusedSectionVars false
set_option linter.unusedSimpArgs false
set_option linter.unusedVariables false
namespace Go.Proofs.YtbakoigejihnaaaDoor.Wp
open Go.RowKit Go.Proofs.YtbakoigejihnaaaDoorW.PrintWords Go.Proofs.YtbakoigejihnaaaDoorW.PrintLast Go.Proofs.YtbakoigejihnaaaDoorW.PrintMore
open Ref (Lx rd_lx w64 licitref24_Few.f licitref24_Few.l0 licitref26_FewTexts.f licitref26_FewTexts.l0)

def fewW (l : List Lx) : Bool := decide (l.length ≤ 40) && l.all fun x => decide (x.f0.size ≤ 40)
def fewT (l : List Tx) : Bool := decide (l.length ≤ 5) && l.all fun t => fewW t.f1 && decide (t.f0.size ≤ 200)

theorem few_l (l : List Lx) (hl : l.length ≤ 40) : ∀ d i k, i + d = l.length → d < k → licitref24_Few.l0 k l (i : Int) = some ((l.drop i).all fun x => decide (x.f0.size ≤ 40))
  | 0, i, k, hi, hk => by
    obtain ⟨k, rfl⟩ : ∃ j, k = j + 1 := ⟨k - 1, by omega⟩
    simp only [licitref24_Few.l0]
    rw [if_neg (by omega), List.drop_of_length_le (by omega)]; rfl
  | d + 1, i, k, hi, hk => by
    obtain ⟨k, rfl⟩ : ∃ j, k = j + 1 := ⟨k - 1, by omega⟩
    have e2 : wrap64 ((i : Int) + 1) = ((i + 1 : Nat) : Int) := by rw [w64 (by omega) (by omega)]; omega
    have hil : i < l.length := by omega
    simp only [licitref24_Few.l0, e2]
    rw [if_pos (by omega), if_pos (by omega), rd_lx hil, List.drop_eq_getElem_cons hil, List.all_cons]
    by_cases hs : ((l[i]).f0.size : Int) > 40
    · rw [if_pos hs, decide_eq_false (by omega)]; rfl
    · rw [if_neg hs, few_l l hl d (i + 1) k (by omega) (by omega), decide_eq_true (by omega)]; rfl

theorem fewW_ev (l : List Lx) {k : Nat} (hk : 41 ≤ k) : licitref24_Few.f k l = some (fewW l) := by
  unfold licitref24_Few.f fewW
  by_cases h : (l.length : Int) > 40
  · rw [if_pos h, decide_eq_false (by omega)]; rfl
  · rw [if_neg h, decide_eq_true (by omega), show (0 : Int) = ((0 : Nat) : Int) from rfl, few_l l (by omega) l.length 0 k (by omega) (by omega)]; rfl

theorem fewT_l (l : List Tx) (hl : l.length ≤ 5) : ∀ d i k, i + d = l.length → d + 41 < k → licitref26_FewTexts.l0 k l (i : Int) = some ((l.drop i).all fun t => fewW t.f1 && decide (t.f0.size ≤ 200))
  | 0, i, k, hi, hk => by
    obtain ⟨k, rfl⟩ : ∃ j, k = j + 1 := ⟨k - 1, by omega⟩
    simp only [licitref26_FewTexts.l0]
    rw [if_neg (by omega), List.drop_of_length_le (by omega)]; rfl
  | d + 1, i, k, hi, hk => by
    obtain ⟨k, rfl⟩ : ∃ j, k = j + 1 := ⟨k - 1, by omega⟩
    have e2 : wrap64 ((i : Int) + 1) = ((i + 1 : Nat) : Int) := by rw [w64 (by omega) (by omega)]; omega
    have hil : i < l.length := by omega
    simp only [licitref26_FewTexts.l0, e2]
    rw [if_pos (by omega), if_pos (by omega), rd_tx hil, List.drop_eq_getElem_cons hil, List.all_cons, fewW_ev _ (by omega), Option.bind_some]
    by_cases hw : fewW l[i].f1 = true
    · rw [if_pos hw, hw, Bool.true_and]
      by_cases hs : ((l[i]).f0.size : Int) > 200
      · rw [if_pos hs, decide_eq_false (by omega)]; rfl
      · rw [if_neg hs, fewT_l l hl d (i + 1) k (by omega) (by omega), decide_eq_true (by omega)]; rfl
    · rw [if_neg hw, Bool.eq_false_iff.2 hw]; rfl

theorem fewT_ev (l : List Tx) : licitref26_FewTexts.f 50 l = some (fewT l) := by
  unfold licitref26_FewTexts.f fewT
  by_cases h : (l.length : Int) > 5
  · rw [if_pos h, decide_eq_false (by omega)]; rfl
  · rw [if_neg h, decide_eq_true (by omega), show (0 : Int) = ((0 : Nat) : Int) from rfl, fewT_l l (by omega) l.length 0 50 (by omega) (by omega)]; rfl

theorem fewT_calls (T : List Tx) (A : Option Addr) (c : Nat) (w : World) (hC : Kd.C kTx w A T.length T) (hc : T.length ≤ c) :
    Calls Tryd.prog 5 #[.slice A T.length c] w fun e w' => e = .returned (.bool (fewT T)) ∧ Drawn0 w w' :=
  Ref.licitref26_FewTexts.calls 50 A c T (fewT T) w hC hc (fewT_ev T)

theorem fewT_small {T : List Tx} (h : fewT T = true) : ∀ t, t ∈ T → TxSmall t ∧ t.f1.length ≤ 40 := by
  unfold fewT at h
  rw [Bool.and_eq_true, List.all_eq_true] at h
  intro t ht
  have h2 := h.2 t ht
  unfold fewW at h2
  simp only [Bool.and_eq_true, decide_eq_true_eq, List.all_eq_true] at h2
  exact ⟨⟨by omega, by omega, fun x hx => by have := h2.1.2 x hx; omega⟩, h2.1.1⟩
end Go.Proofs.YtbakoigejihnaaaDoor.Wp

/- The chapter's example: what its parts are. -/
set_option linter.unusedSectionVars false
set_option linter.unusedSimpArgs false
set_option linter.unusedVariables false
namespace Go.Proofs.YtbakoigejihnaaaDoor.Wp
open Go.RowKit Go.Proofs.YtbakoigejihnaaaDoorW.PrintWords Go.Proofs.YtbakoigejihnaaaDoorW.PrintLast Go.Proofs.YtbakoigejihnaaaDoorW.PrintMore
open Ref (Lx txt txt_length)
open Kl (Cl)

theorem R_reads {w : World} {base : Nat} {ok : Nat → Prop} {v : Value} {l : List Lx} (h : Kd.R kLx 54 w base ok v l) : ∃ A1 c1, v = .slice A1 l.length c1 ∧ l.length ≤ c1 ∧ Kd.C kLx w A1 l.length l := by
  obtain ⟨A1, c, h1, hle, h2⟩ := h.2.reads
  exact ⟨A1, c, h1, hle, h2.imp_ (Below.refl _ _) (fun p c hc => kLx.K_of_M hc)⟩

def exA : Tx := ⟨⟨#[120]⟩, [⟨⟨#[97]⟩, 0⟩, ⟨⟨#[98]⟩, 0⟩, ⟨⟨#[99]⟩, 0⟩, ⟨⟨#[97]⟩, 0⟩, ⟨⟨#[98]⟩, 0⟩]⟩
def exB : Tx := ⟨⟨#[121]⟩, [⟨⟨#[98]⟩, 0⟩, ⟨⟨#[99]⟩, 0⟩, ⟨⟨#[97]⟩, 0⟩]⟩
theorem exA_ev : Ref.licitlaw29_text.f 10 ⟨#[120]⟩ ⟨#[97, 98, 99, 97, 98]⟩ = some (exA.f0, exA.f1) := by kernel_rfl
theorem exB_ev : Ref.licitlaw29_text.f 10 ⟨#[121]⟩ ⟨#[98, 99, 97]⟩ = some (exB.f0, exB.f1) := by kernel_rfl
theorem ex_tw : tw [exA, exB] = Ak.ex := rfl
theorem ex_small : ∀ t, t ∈ [exA, exB] → TxSmall t := by
  intro t ht
  rcases List.mem_cons.1 ht with rfl | ht
  · exact ⟨by decide, by decide, by decide⟩
  · obtain rfl := List.mem_singleton.1 ht
    exact ⟨by decide, by decide, by decide⟩
theorem ex_words : ∀ d, d < 3 → (txt exA.f1).getD (1 + d) ByteArray.empty = (txt exB.f1).getD d ByteArray.empty := by
  intro d hd
  rcases (show d = 0 ∨ d = 1 ∨ d = 2 by omega) with rfl | rfl | rfl <;> rfl
theorem ex_right : rightT [exA, exB] = true := by kernel_rfl

theorem textA_calls (w : World) : Calls Tryd.prog 9 #[.string ⟨#[120]⟩, .string ⟨#[97, 98, 99, 97, 98]⟩] w fun e w' => ∃ A1 c1, e = .returned (.agg #[.string exA.f0, .slice A1 5 c1]) ∧ 5 ≤ c1 ∧ Kd.C kLx w' A1 5 exA.f1 ∧ Below w.heap.size w w' :=
  (Ref.licitlaw29_text.calls 10 _ _ _ _ w exA_ev).mono fun e w' ⟨v, he, hr, hb⟩ => by
    obtain ⟨A1, c1, rfl, hc, hC⟩ := R_reads hr
    exact ⟨A1, c1, he, hc, hC, hb⟩
theorem textB_calls (w : World) : Calls Tryd.prog 9 #[.string ⟨#[121]⟩, .string ⟨#[98, 99, 97]⟩] w fun e w' => ∃ A1 c1, e = .returned (.agg #[.string exB.f0, .slice A1 3 c1]) ∧ 3 ≤ c1 ∧ Kd.C kLx w' A1 3 exB.f1 ∧ Below w.heap.size w w' :=
  (Ref.licitlaw29_text.calls 10 _ _ _ _ w exB_ev).mono fun e w' ⟨v, he, hr, hb⟩ => by
    obtain ⟨A1, c1, rfl, hc, hC⟩ := R_reads hr
    exact ⟨A1, c1, he, hc, hC, hb⟩

/-- a slice of two texts, as it is built -/
theorem two_texts {w : World} {b : Nat} {ta tb : Tx} {A1 A2 : Option Addr} {c1 c2 : Nat} {e : TypeId} {fz : Nat × Nat}
    (h : w.heap[b]? = some (.cells #[.string ta.f0, .slice A1 ta.f1.length c1, .string tb.f0, .slice A2 tb.f1.length c2] e fz)) (hc1 : ta.f1.length ≤ c1) (hC1 : Kd.C kLx w A1 ta.f1.length ta.f1) (hc2 : tb.f1.length ≤ c2) (hC2 : Kd.C kLx w A2 tb.f1.length tb.f1) :
    Kd.C kTx w (some ⟨b, 0, none⟩) 2 [ta, tb] := by
  refine ⟨rfl, by decide, fun _ => ⟨_, rfl, fun j p hj => ?_⟩⟩
  match j, hj with
  | 0, hj =>
    obtain rfl : ta = p := by simpa using hj
    refine ⟨_, rfl, Ref.k24_mk w ta hc1 hC1, fun i u hu => ?_⟩
    match i, hu with
    | 0, hu => obtain rfl : Value.string ta.f0 = u := by simpa using hu
               exact World.news_of_block h 0 _ rfl
    | 1, hu => obtain rfl : Value.slice A1 ta.f1.length c1 = u := by simpa using hu
               exact World.news_of_block h 1 _ rfl
    | i + 2, hu => simp at hu
  | 1, hj =>
    obtain rfl : tb = p := by simpa using hj
    refine ⟨_, rfl, Ref.k24_mk w tb hc2 hC2, fun i u hu => ?_⟩
    match i, hu with
    | 0, hu => obtain rfl : Value.string tb.f0 = u := by simpa using hu
               exact World.news_of_block h 2 _ rfl
    | 1, hu => obtain rfl : Value.slice A2 tb.f1.length c2 = u := by simpa using hu
               exact World.news_of_block h 3 _ rfl
    | i + 2, hu => simp at hu
  | j + 2, hj => simp at hj

end Go.Proofs.YtbakoigejihnaaaDoor.Wp

/- The chapter's example: walked. -/
set_option linter.unusedSectionVars false
set_option linter.unusedSimpArgs false
set_option linter.unusedVariables false
namespace Go.Proofs.YtbakoigejihnaaaDoor.Wp
open Go.RowKit Go.Proofs.YtbakoigejihnaaaDoorW.PrintWords Go.Proofs.YtbakoigejihnaaaDoorW.PrintLast Go.Proofs.YtbakoigejihnaaaDoorW.PrintMore
open Ref (Lx txt txt_length)
open Kl (Cl)

theorem findEx_calls (A : Option Addr) (c : Nat) (w : World) (hM : MaxAt w) (hC : Kd.C kTx w A 2 [exA, exB]) :
    Calls Tryd.prog 6 #[.slice A 2 c, .int .i64 2, .int .i64 1] w fun e w' => Below w.heap.size w w' ∧ ∃ A1 c1, e = .returned (.tuple #[.slice A1 2 c1, .int .i64 0]) ∧ 2 ≤ c1 ∧ Kd.C Ref.k38 w' A1 2 (Ak.exCl.map clS) := by
  have h := find_calls [exA, exB] A c w hM hC ex_small (by decide) 2 1 (by decide) (by decide) (by decide) (by decide)
  simp only [ex_right, if_true] at h
  refine h.mono fun e w' ⟨hb, L, hL, hc⟩ => ⟨hb, ?_⟩
  obtain rfl := Ak.ex_only hL
  rcases hc with ⟨_, A1, c1, he, hc1, hC1⟩ | ⟨hc, _⟩
  · exact ⟨A1, c1, he, hc1, hC1⟩
  · exact absurd hc (by decide)

theorem exClS_eq : Ak.exCl.map clS = [⟨0, 0, 0, 3, 2⟩, ⟨0, 1, 1, 0, 3⟩] := rfl

theorem two_cls {w : World} {b : Nat} {e : TypeId} {fz : Nat × Nat} {x0 x1 x2 x3 x4 y0 y1 y2 y3 y4 : Int}
    (h : w.heap[b]? = some (.cells #[.int .i64 x0, .int .i64 x1, .int .i64 x2, .int .i64 x3, .int .i64 x4, .int .i64 y0, .int .i64 y1, .int .i64 y2, .int .i64 y3, .int .i64 y4] e fz)) :
    Kd.C kCl w (some ⟨b, 0, none⟩) 2 [⟨x0, x1, x2, x3, x4⟩, ⟨y0, y1, y2, y3, y4⟩] := by
  refine ⟨rfl, by decide, fun _ => ⟨_, rfl, fun j p hj => ?_⟩⟩
  match j, hj with
  | 0, hj =>
    obtain rfl : (⟨x0, x1, x2, x3, x4⟩ : SCl) = p := by simpa using hj
    refine ⟨_, rfl, Ref.k38_mk w _, fun i u hu => ?_⟩
    match i, hu with
    | 0, hu => obtain rfl : Value.int .i64 x0 = u := by simpa using hu
               exact World.news_of_block h 0 _ rfl
    | 1, hu => obtain rfl : Value.int .i64 x1 = u := by simpa using hu
               exact World.news_of_block h 1 _ rfl
    | 2, hu => obtain rfl : Value.int .i64 x2 = u := by simpa using hu
               exact World.news_of_block h 2 _ rfl
    | 3, hu => obtain rfl : Value.int .i64 x3 = u := by simpa using hu
               exact World.news_of_block h 3 _ rfl
    | 4, hu => obtain rfl : Value.int .i64 x4 = u := by simpa using hu
               exact World.news_of_block h 4 _ rfl
    | i + 5, hu => simp at hu
  | 1, hj =>
    obtain rfl : (⟨y0, y1, y2, y3, y4⟩ : SCl) = p := by simpa using hj
    refine ⟨_, rfl, Ref.k38_mk w _, fun i u hu => ?_⟩
    match i, hu with
    | 0, hu => obtain rfl : Value.int .i64 y0 = u := by simpa using hu
               exact World.news_of_block h 5 _ rfl
    | 1, hu => obtain rfl : Value.int .i64 y1 = u := by simpa using hu
               exact World.news_of_block h 6 _ rfl
    | 2, hu => obtain rfl : Value.int .i64 y2 = u := by simpa using hu
               exact World.news_of_block h 7 _ rfl
    | 3, hu => obtain rfl : Value.int .i64 y3 = u := by simpa using hu
               exact World.news_of_block h 8 _ rfl
    | 4, hu => obtain rfl : Value.int .i64 y4 = u := by simpa using hu
               exact World.news_of_block h 9 _ rfl
    | i + 5, hu => simp at hu
  | j + 2, hj => simp at hj

theorem checkEx_calls (A : Option Addr) (c : Nat) (w : World) (hM : MaxAt w) (hC : Kd.C kTx w A 2 [exA, exB]) :
    Calls Tryd.prog 11 #[.slice A 2 c, .agg #[.int .i64 0, .int .i64 1, .int .i64 1, .int .i64 0, .int .i64 3], .int .i64 3] w (fun e w' => e = .returned (.int .i64 0) ∧ Below w.heap.size w w') :=
  Check_calls exA exB A c w hM hC ex_small ex_right rfl rfl ex_words 3 (.inl rfl)
theorem checkEx4_calls (A : Option Addr) (c : Nat) (w : World) (hM : MaxAt w) (hC : Kd.C kTx w A 2 [exA, exB]) :
    Calls Tryd.prog 11 #[.slice A 2 c, .agg #[.int .i64 0, .int .i64 1, .int .i64 1, .int .i64 0, .int .i64 3], .int .i64 4] w (fun e w' => e = .returned (.int .i64 13) ∧ Below w.heap.size w w') :=
  Check_calls exA exB A c w hM hC ex_small ex_right rfl rfl ex_words 4 (.inr rfl)

theorem equalEx_calls (A1 A2 : Option Addr) (c1 c2 : Nat) (w : World) (h1 : Kd.C kCl w A1 2 (Ak.exCl.map clS)) (h2 : Kd.C kCl w A2 2 [⟨0, 0, 0, 3, 2⟩, ⟨0, 1, 1, 0, 3⟩]) :
    Calls Tryd.prog 10 #[.slice A1 2 c1, .slice A2 2 c2] w fun e w' => e = .returned (.bool true) ∧ Below w.heap.size w w' :=
  (equal_calls w A1 A2 c1 c2 (Ak.exCl.map clS) [⟨0, 0, 0, 3, 2⟩, ⟨0, 1, 1, 0, 3⟩] h1 h2 (by decide) (by decide)).mono fun e w' ⟨he, m, hw⟩ => ⟨he, by rw [hw]; exact ⟨rfl, rfl, rfl, Nat.le_refl _, fun _ _ => rfl⟩⟩

theorem ex_second {w : World} {A : Option Addr} (h : Kd.C kCl w A 2 (Ak.exCl.map clS)) : ∃ ad, A = some ad ∧ w.cell? ⟨ad.block, ad.off + 5, none⟩ = some (.int .i64 0) ∧ w.cell? ⟨ad.block, ad.off + 5 + 1, none⟩ = some (.int .i64 1) ∧ w.cell? ⟨ad.block, ad.off + 5 + 2, none⟩ = some (.int .i64 1) ∧
    w.cell? ⟨ad.block, ad.off + 5 + 3, none⟩ = some (.int .i64 0) ∧ w.cell? ⟨ad.block, ad.off + 5 + 4, none⟩ = some (.int .i64 3) := by
  obtain ⟨ad, e, p0, p1, p2, p3, p4⟩ := Ref.at_T38 h 1 (by decide) (by decide)
  have e2 : ad.add ((1 : Int).toNat * 5) = ⟨ad.block, ad.off + 5, none⟩ := by simp [Addr.add]
  rw [e2] at p0 p1 p2 p3 p4
  exact ⟨ad, e, p0, p1, p2, p3, p4⟩

set_option maxHeartbeats 8000000 in
set_option maxRecDepth 100000 in
theorem awake_calls (w : World) (hM : MaxAt w) : Calls Tryd.prog 4 #[] w fun e w' => e = .returned (.bool true) ∧ Below w.heap.size w w' := by
  have HM := Aside0.mk hM
  clear hM
  go_enter Tryd.func4, Tryd.ntmps4
  go_wp2_with fail
  (with_reducible refine (textA_calls _).mono ?_)
  rintro e w1 ⟨A1, c1, rfl, hc1, hC1, hb1⟩
  have HC1 := Aside0.mk hC1
  have HB1 := Aside0.mk hb1
  have Hc1 := Aside0.mk hc1
  clear hC1 hb1 hc1
  go_wp2_with fail
  (with_reducible refine (textB_calls _).mono ?_)
  rintro e w2 ⟨A2, c2, rfl, hc2, hC2, hb2⟩
  have HC2 := Aside0.mk hC2
  have Hc2 := Aside0.mk hc2
  have HC12 := Aside0.mk (Kd.C_below HC1.out hb2)
  have HB2 : Aside0 (Below w.heap.size w w2) := ⟨HB1.out.trans (hb2.mono HB1.out.size)⟩
  clear hC2 hb2 hc2 HC1 HB1
  go_wp2_with fail
  obtain ⟨W3, hW3⟩ : ∃ W3, W3 = w2.alloc (.cells #[.string exA.f0, .slice A1 5 c1, .string exB.f0, .slice A2 3 c2] 24) := ⟨_, rfl⟩
  have hb3 : Below w2.heap.size w2 W3 := by rw [hW3]; exact (Below.refl _ _).alloc (Nat.le_refl _) _
  have hCT : Kd.C kTx W3 (some ⟨w2.heap.size, 0, none⟩) 2 [exA, exB] := by
    have hn := heap_alloc_new w2 (.cells #[.string exA.f0, .slice A1 5 c1, .string exB.f0, .slice A2 3 c2] 24)
    rw [← hW3] at hn
    exact two_texts hn Hc1.out (Kd.C_below HC12.out hb3) Hc2.out (Kd.C_below HC2.out hb3)
  rw [← hW3]
  have HB3 : Aside0 (Below w.heap.size w W3) := ⟨HB2.out.trans (hb3.mono HB2.out.size)⟩
  have HCT := Aside0.mk hCT
  clear hW3 hb3 hCT HC12 HC2 Hc1 Hc2 HB2
  generalize w2.heap.size = bt at HCT ⊢
  clear w2
  (with_reducible refine (findEx_calls _ _ _ (HM.out.of HB3.out) HCT.out).mono ?_)
  rintro e w4 ⟨hb4, A4, c4, rfl, hc4, hC4⟩
  have HCT4 := Aside0.mk (Kd.C_below HCT.out hb4)
  have HB4 : Aside0 (Below w.heap.size w w4) := ⟨HB3.out.trans (hb4.mono HB3.out.size)⟩
  have HC4 := Aside0.mk hC4
  clear hb4 hc4 hC4 HCT HB3
  go_wp2_with fail
  obtain ⟨W5, hW5⟩ : ∃ W5, W5 = w4.alloc (.cells #[.int .i64 0, .int .i64 0, .int .i64 0, .int .i64 3, .int .i64 2, .int .i64 0, .int .i64 1, .int .i64 1, .int .i64 0, .int .i64 3] 38) := ⟨_, rfl⟩
  have hb5 : Below w4.heap.size w4 W5 := by rw [hW5]; exact (Below.refl _ _).alloc (Nat.le_refl _) _
  have hC5 : Kd.C kCl W5 (some ⟨w4.heap.size, 0, none⟩) 2 [⟨0, 0, 0, 3, 2⟩, ⟨0, 1, 1, 0, 3⟩] := by
    have hn := heap_alloc_new w4 (.cells #[.int .i64 0, .int .i64 0, .int .i64 0, .int .i64 3, .int .i64 2, .int .i64 0, .int .i64 1, .int .i64 1, .int .i64 0, .int .i64 3] 38)
    rw [← hW5] at hn
    exact two_cls hn
  rw [← hW5]
  have HB5 : Aside0 (Below w.heap.size w W5) := ⟨HB4.out.trans (hb5.mono HB4.out.size)⟩
  have HC5 := Aside0.mk hC5
  have HCT5 := Aside0.mk (Kd.C_below HCT4.out hb5)
  have HC45 := Aside0.mk (Kd.C_below HC4.out hb5)
  clear hW5 hb5 hC5 HCT4 HC4 HB4
  generalize w4.heap.size = bu at HC5 ⊢
  clear w4
  (with_reducible refine (equalEx_calls _ _ _ _ _ HC45.out HC5.out).mono ?_)
  rintro e w6 ⟨rfl, hb6⟩
  have HCT6 := Aside0.mk (Kd.C_below HCT5.out hb6)
  have HC46 := Aside0.mk (Kd.C_below HC45.out hb6)
  have HB6 : Aside0 (Below w.heap.size w w6) := ⟨HB5.out.trans (hb6.mono HB5.out.size)⟩
  obtain ⟨ad, rfl, p0, p1, p2, p3, p4⟩ := ex_second HC46.out
  clear hb6 HCT5 HC45 HB5 HC5
  go_wp2_with fail
  (with_reducible refine (checkEx_calls _ _ _ (HM.out.of HB6.out) HCT6.out).mono ?_)
  rintro e w7 ⟨rfl, hb7⟩
  have HCT7 := Aside0.mk (Kd.C_below HCT6.out hb7)
  obtain ⟨ad', e7, q0, q1, q2, q3, q4⟩ := ex_second (Kd.C_below HC46.out hb7)
  injection e7 with e7
  subst e7
  have HB7 : Aside0 (Below w.heap.size w w7) := ⟨HB6.out.trans (hb7.mono HB6.out.size)⟩
  clear hb7 HCT6 HC46 HB6 p0 p1 p2 p3 p4
  go_wp2_with fail
  (with_reducible refine (checkEx4_calls _ _ _ (HM.out.of HB7.out) HCT7.out).mono ?_)
  rintro e w8 ⟨rfl, hb8⟩
  have HB8 : Aside0 (Below w.heap.size w w8) := ⟨HB7.out.trans (hb8.mono HB7.out.size)⟩
  clear hb8 HCT7 HB7 q0 q1 q2 q3 q4
  go_wp2_with fail
  go_ret
  exact ⟨rfl, HB8.out⟩
end Go.Proofs.YtbakoigejihnaaaDoor.Wp
