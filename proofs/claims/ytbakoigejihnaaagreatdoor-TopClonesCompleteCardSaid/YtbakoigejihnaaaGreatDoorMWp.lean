/- Paths, valid texts, right lists of texts and fingerprints, walked. Conditions: none. -/
import Derived.Test.YtbakoigejihnaaaGreatDoorMSh
import Derived.Test.YtbakoigejihnaaaGreatDoorMEv
import Derived.Test.YtbakoigejihnaaaGreatDoorMWalk
import Derived.Shelf.SlicesE.IndexFunc
import Derived.Lib.SplitLaws
import Derived.Deep.QuietTactic
import Derived.BigQuiet
import Derived.Below
import Derived.Laws.Cover1
section
set_option linter.unusedSectionVars false
set_option linter.unusedSimpArgs false
set_option linter.unusedVariables false
namespace Go.Proofs.YtbakoigejihnaaaGreatDoor.Wp
open Go.RowKit Go.Proofs.YtbakoigejihnaaaGreatDoorW.PrintWords Go.Proofs.YtbakoigejihnaaaGreatDoorW.PrintLast Go.Proofs.YtbakoigejihnaaaGreatDoorW.PrintMore

/-- a byte of a name part -/
def runeOk (x : Nat) : Bool := decide (97 ≤ x ∧ x ≤ 122) || decide (48 ≤ x ∧ x ≤ 57) || decide (x = 46) || decide (x = 95) || decide (x = 45)

set_option maxHeartbeats 4000000 in
theorem rune_calls (x : Nat) (hx : x ≤ 1114111) (w : World) : Calls Tryz.prog 76 #[.int .i32 (x : Nat)] w fun e w' => e = .returned (.bool (!runeOk x)) ∧ w' = w := by
  have hc : x < 45 ∨ x = 45 ∨ x = 46 ∨ x = 47 ∨ (48 ≤ x ∧ x ≤ 57) ∨ (58 ≤ x ∧ x < 95) ∨ x = 95 ∨ x = 96 ∨ (97 ≤ x ∧ x ≤ 122) ∨ 122 < x := by omega
  rcases hc with h | h | h | h | h | h | h | h | h | h
  all_goals
    (first | have r : runeOk x = true := by (unfold runeOk; simp; omega) | have r : runeOk x = false := by (unfold runeOk; simp; omega))
    (first | have b1 : decide ((97 : Int) ≤ (x : Int)) = true := by (simp; omega) | have b1 : decide ((97 : Int) ≤ (x : Int)) = false := by (simp; omega))
    (first | have b2 : decide ((x : Int) ≤ 122) = true := by (simp; omega) | have b2 : decide ((x : Int) ≤ 122) = false := by (simp; omega))
    (first | have b3 : decide ((48 : Int) ≤ (x : Int)) = true := by (simp; omega) | have b3 : decide ((48 : Int) ≤ (x : Int)) = false := by (simp; omega))
    (first | have b4 : decide ((x : Int) ≤ 57) = true := by (simp; omega) | have b4 : decide ((x : Int) ≤ 57) = false := by (simp; omega))
    (first | have b5 : ((x : Int) == 46) = true := by (rw [beq_iff_eq]; omega) | have b5 : ((x : Int) == 46) = false := by (rw [beq_eq_false_iff_ne]; omega))
    (first | have b6 : ((x : Int) == 95) = true := by (rw [beq_iff_eq]; omega) | have b6 : ((x : Int) == 95) = false := by (rw [beq_eq_false_iff_ne]; omega))
    (first | have b7 : ((x : Int) == 45) = true := by (rw [beq_iff_eq]; omega) | have b7 : ((x : Int) == 45) = false := by (rw [beq_eq_false_iff_ne]; omega))
    rw [r]
    clear h r hx
    go_enter Tryz.func76, Tryz.ntmps76
    go_wp2
    go_ret
    exact ⟨rfl, rfl⟩

/-- a name part -/
def partOk (s : ByteArray) : Bool :=
  if s.size = 0 then false else if 32 < s.size then false else if bt s 0 = 46 then false else if bt s 0 = 45 then false else !(decide (0 ≤ Lib.idxFunc (fun x => !runeOk x) true s))

theorem pred_rune (w : World) : PredAtRunes Tryz.prog 76 #[] (fun x => !runeOk x) w := fun W x hx _ =>
  (rune_calls x hx W).mono fun _ _ ⟨he, hw⟩ => ⟨he, 0, hw⟩

theorem contains_rune (s : ByteArray) (w : World) : Calls Tryz.prog 75 #[.string s, .func (.func 76) #[] #[]] w fun e w' => e = .returned (.bool (decide (0 ≤ Lib.idxFunc (fun x => !runeOk x) true s))) ∧ Below w.heap.size w w' :=
  Tryz.strings_ContainsFunc_runes 76 #[] (enters_of Tryz.func76 (by kernel_rfl) rfl) (fun x => !runeOk x) s w (pred_rune w)

set_option maxHeartbeats 4000000 in
theorem part_calls (s : ByteArray) (w : World) : Calls Tryz.prog 40 #[.string s] w fun e w' => e = .returned (.bool (partOk s)) ∧ Below w.heap.size w w' := by
  unfold partOk
  by_cases h0 : s.size = 0
  · obtain rfl : s = ⟨#[]⟩ := by
      obtain ⟨a⟩ := s
      congr 1
      exact Array.eq_empty_of_size_eq_zero h0
    rw [if_pos h0]
    clear h0
    go_enter Tryz.func40, Tryz.ntmps40
    go_wp2
    go_ret
    exact ⟨rfl, Below.refl _ _⟩
  · rw [if_neg h0]
    have hpos : 0 < s.size := by omega
    have he : s.toList.isEmpty = false := by
      rw [Lib.toList_data, List.isEmpty_eq_false_iff]
      intro h
      have := congrArg List.length h
      rw [← Lib.size_eq] at this
      simp only [List.length_nil] at this
      omega
    have hx : bt s 0 = ((s[0]'hpos).toNat : Int) := by simp [bt, hpos]
    rw [hx]
    clear hx
    by_cases h1 : 32 < s.size
    · rw [if_pos h1]
      have b1 : decide ((32 : Int) < (s.size : Int)) = true := by simp; omega
      clear h0 h1
      go_enter Tryz.func40, Tryz.ntmps40
      go_wp2
      go_ret
      exact ⟨rfl, Below.refl _ _⟩
    · rw [if_neg h1]
      have b1 : decide ((32 : Int) < (s.size : Int)) = false := by simp; omega
      by_cases h2 : ((s[0]'hpos).toNat : Int) = 46
      · rw [if_pos h2]
        have b2 : (((s[0]'hpos).toNat : Int) == 46) = true := by rw [beq_iff_eq]; exact h2
        clear h0 h1 h2
        go_enter Tryz.func40, Tryz.ntmps40
        go_wp2
        go_ret
        exact ⟨rfl, Below.refl _ _⟩
      · rw [if_neg h2]
        have b2 : (((s[0]'hpos).toNat : Int) == 46) = false := by rw [beq_eq_false_iff_ne]; exact h2
        by_cases h3 : ((s[0]'hpos).toNat : Int) = 45
        · rw [if_pos h3]
          have b3 : (((s[0]'hpos).toNat : Int) == 45) = true := by rw [beq_iff_eq]; exact h3
          clear h0 h1 h2 h3
          go_enter Tryz.func40, Tryz.ntmps40
          go_wp2
          go_ret
          exact ⟨rfl, Below.refl _ _⟩
        · rw [if_neg h3]
          have b3 : (((s[0]'hpos).toNat : Int) == 45) = false := by rw [beq_eq_false_iff_ne]; exact h3
          clear h0 h1 h2 h3
          have hcon := contains_rune s w
          generalize decide (0 ≤ Lib.idxFunc (fun x => !runeOk x) true s) = r at hcon ⊢
          have HC := Aside0.mk hcon
          clear hcon
          go_enter Tryz.func40, Tryz.ntmps40
          go_wp2_with (go_at_call 75; refine HC.out.mono ?_; rintro e w' ⟨rfl, hb⟩; have HB := Aside0.mk hb; clear hb)
          go_ret
          exact ⟨rfl, HB.out⟩
end Go.Proofs.YtbakoigejihnaaaGreatDoor.Wp
end
section
set_option linter.unusedSectionVars false
set_option linter.unusedSimpArgs false
set_option linter.unusedVariables false
namespace Go.Proofs.YtbakoigejihnaaaGreatDoor.Wp
open Go.RowKit Go.Proofs.YtbakoigejihnaaaGreatDoorW.PrintWords Go.Proofs.YtbakoigejihnaaaGreatDoorW.PrintLast Go.Proofs.YtbakoigejihnaaaGreatDoorW.PrintMore

/-- a predicate by a function value: it may make memory -/
def PredB {α : Type} (g : Nat) (enc : α → Value) (p : α → Bool) (ok : α → Prop) (w : World) : Prop :=
  ∀ (W : World) (x : α), ok x → Below w.heap.size w W → Calls Tryz.prog g #[enc x] W fun e w' => e = .returned (.bool (p x)) ∧ Below W.heap.size W w'

set_option maxHeartbeats 2000000 in
theorem index_str (g : Nat) (p : ByteArray → Bool) (ok : ByteArray → Prop) (eg : ∀ args w, (callFunc g args).run Tryz.prog w = .ok (.enter g args) w) (b c : Nat) (zs : List ByteArray) (w : World) (hb : b < w.heap.size) (hp : PredB g (Value.string) p ok w) (hok : ∀ x, x ∈ zs → ok x)
    (hbig : zs.length ≤ 4611686018427387904) (hc : ∀ j, j < zs.length → w.cell? ⟨b, j, none⟩ = some (Value.string zs[j]!)) :
    Calls Tryz.prog 74 #[.slice (some ⟨b, 0, none⟩) zs.length c, .func (.func g) #[] #[]] w fun e w' => e = .returned (.int .i64 (Lib.idxBy (fun _ y => p y) zs default)) ∧ Below w.heap.size w w' := by
  have HP := Aside0.mk hp
  have HO := Aside0.mk hok
  have HC := Aside0.mk hc
  clear hp hok hc
  go_enter Tryz.func74, Tryz.ntmps74
  go_wp2
  go_loopg [5, 8] zs.length (fun gg v5 v8 wr => ∃ kk : Nat, v8 = .int .i64 kk ∧ Aside0 (kk + gg = zs.length) ∧ Aside0 (∀ j, j < kk → p zs[j]! = false) ∧ Aside0 (Below w.heap.size w wr))
  case atStart => exact ⟨0, rfl, ⟨by omega⟩, ⟨fun j hj => absurd hj (Nat.not_lt_zero _)⟩, ⟨Below.refl _ _⟩⟩
  case round =>
    obtain ⟨kk, rfl, HK, A, HB⟩ := hrel
    by_cases hlt : kk < zs.length
    · have hltz : decide ((kk : Int) < (zs.length : Int)) = true := by simp; omega
      have hcell : wr.cell? ⟨b, kk, none⟩ = some (Value.string zs[kk]!) := (HB.out.cell (p := ⟨b, kk, none⟩) hb).trans (HC.out kk hlt)
      have hmem : zs[kk]! ∈ zs := by rw [getElem!_pos zs kk hlt]; exact List.getElem_mem _
      have hcall := HP.out wr zs[kk]! (HO.out _ hmem) HB.out
      generalize hy : zs[kk]! = y at hcell hcall
      have B := Aside0.mk hy
      clear hy hmem
      cases hq : p y with
      | true =>
        rw [hq] at hcall
        have HQ := Aside0.mk hq
        clear hq
        have HCall := Aside0.mk hcall
        clear hcall
        go_wp2_with (go_at_fn g; refine HCall.out.mono ?_; rintro e w' ⟨rfl, hb2⟩; have HB2 := Aside0.mk hb2; clear hb2)
        go_ret
        refine ⟨?_, HB.out.trans (HB2.out.mono HB.out.size)⟩
        have := Lib.idxBy_hit (fun _ y => p y) zs zs.length kk default hlt (Nat.le_refl _) (by show p zs[kk]! = true; rw [B.out]; exact HQ.out) A.out
        rw [List.take_length] at this
        rw [this]
        rfl
      | false =>
        rw [hq] at hcall
        have HQ := Aside0.mk hq
        clear hq
        have HCall := Aside0.mk hcall
        clear hcall
        go_wp2_with (go_at_fn g; refine HCall.out.mono ?_; rintro e w' ⟨rfl, hb2⟩; have HB2 := Aside0.mk hb2; clear hb2)
        go_roundg (gk - 1)
        case measure => have := HK.out; omega
        case rel =>
          refine ⟨kk + 1, by go_num, ⟨by have := HK.out; omega⟩, ⟨fun j hj => ?_⟩, ⟨HB.out.trans (HB2.out.mono HB.out.size)⟩⟩
          by_cases e : j = kk
          · subst e
            rw [B.out]; exact HQ.out
          · exact A.out j (by omega)
    · have hltz : decide ((kk : Int) < (zs.length : Int)) = false := by simp; omega
      have hkk : kk = zs.length := by have := HK.out; omega
      go_wp2
      go_ret
      refine ⟨?_, HB.out⟩
      have := Lib.idxBy_miss (fun _ y => p y) zs zs.length default (by rw [← hkk]; exact A.out)
      rw [List.take_length] at this
      rw [this]
      rfl

set_option maxHeartbeats 1000000 in
theorem contains_str (g : Nat) (p : ByteArray → Bool) (ok : ByteArray → Prop) (eg : ∀ args w, (callFunc g args).run Tryz.prog w = .ok (.enter g args) w) (b c : Nat) (zs : List ByteArray) (w : World) (hb : b < w.heap.size) (hp : PredB g (Value.string) p ok w) (hok : ∀ x, x ∈ zs → ok x)
    (hbig : zs.length ≤ 4611686018427387904) (hc : ∀ j, j < zs.length → w.cell? ⟨b, j, none⟩ = some (Value.string zs[j]!)) :
    Calls Tryz.prog 38 #[.slice (some ⟨b, 0, none⟩) zs.length c, .func (.func g) #[] #[]] w fun e w' => e = .returned (.bool (zs.any p)) ∧ Below w.heap.size w w' := by
  rw [show zs.any p = decide (0 ≤ Lib.idxBy (fun _ y => p y) zs default) from (Lib.idxBy_nonneg_iff (fun _ y => p y) zs default).symm]
  have hcon := index_str g p ok eg b c zs w hb hp hok hbig hc
  generalize Lib.idxBy (fun _ y => p y) zs default = r at hcon ⊢
  have HCon := Aside0.mk hcon
  clear hcon hp hok hc
  go_enter Tryz.func38, Tryz.ntmps38
  go_wp2_with (go_at_call 74; refine HCon.out.mono ?_; rintro e w' ⟨rfl, hb2⟩; have HB2 := Aside0.mk hb2; clear hb2)
  go_ret
  exact ⟨rfl, HB2.out⟩

def encB (c : UInt8) : Value := .int .u8 (c.toNat : Nat)

set_option maxHeartbeats 2000000 in
theorem index_byte (g : Nat) (p : UInt8 → Bool) (ok : UInt8 → Prop) (eg : ∀ args w, (callFunc g args).run Tryz.prog w = .ok (.enter g args) w) (b c : Nat) (zs : List UInt8) (w : World) (hb : b < w.heap.size) (hp : PredB g (encB) p ok w) (hok : ∀ x, x ∈ zs → ok x)
    (hbig : zs.length ≤ 4611686018427387904) (hc : ∀ j, j < zs.length → w.cell? ⟨b, j, none⟩ = some (encB zs[j]!)) :
    Calls Tryz.prog 87 #[.slice (some ⟨b, 0, none⟩) zs.length c, .func (.func g) #[] #[]] w fun e w' => e = .returned (.int .i64 (Lib.idxBy (fun _ y => p y) zs default)) ∧ Below w.heap.size w w' := by
  have HP := Aside0.mk hp
  have HO := Aside0.mk hok
  have HC := Aside0.mk hc
  clear hp hok hc
  go_enter Tryz.func87, Tryz.ntmps87
  go_wp2
  go_loopg [5, 8] zs.length (fun gg v5 v8 wr => ∃ kk : Nat, v8 = .int .i64 kk ∧ Aside0 (kk + gg = zs.length) ∧ Aside0 (∀ j, j < kk → p zs[j]! = false) ∧ Aside0 (Below w.heap.size w wr))
  case atStart => exact ⟨0, rfl, ⟨by omega⟩, ⟨fun j hj => absurd hj (Nat.not_lt_zero _)⟩, ⟨Below.refl _ _⟩⟩
  case round =>
    obtain ⟨kk, rfl, HK, A, HB⟩ := hrel
    by_cases hlt : kk < zs.length
    · have hltz : decide ((kk : Int) < (zs.length : Int)) = true := by simp; omega
      have hcell : wr.cell? ⟨b, kk, none⟩ = some (encB zs[kk]!) := (HB.out.cell (p := ⟨b, kk, none⟩) hb).trans (HC.out kk hlt)
      have hmem : zs[kk]! ∈ zs := by rw [getElem!_pos zs kk hlt]; exact List.getElem_mem _
      have hcall := HP.out wr zs[kk]! (HO.out _ hmem) HB.out
      generalize hy : zs[kk]! = y at hcell hcall
      have B := Aside0.mk hy
      clear hy hmem
      cases hq : p y with
      | true =>
        rw [hq] at hcall
        have HQ := Aside0.mk hq
        clear hq
        have HCall := Aside0.mk hcall
        clear hcall
        go_wp2_with (go_at_fn g; refine HCall.out.mono ?_; rintro e w' ⟨rfl, hb2⟩; have HB2 := Aside0.mk hb2; clear hb2)
        go_ret
        refine ⟨?_, HB.out.trans (HB2.out.mono HB.out.size)⟩
        have := Lib.idxBy_hit (fun _ y => p y) zs zs.length kk default hlt (Nat.le_refl _) (by show p zs[kk]! = true; rw [B.out]; exact HQ.out) A.out
        rw [List.take_length] at this
        rw [this]
        rfl
      | false =>
        rw [hq] at hcall
        have HQ := Aside0.mk hq
        clear hq
        have HCall := Aside0.mk hcall
        clear hcall
        go_wp2_with (go_at_fn g; refine HCall.out.mono ?_; rintro e w' ⟨rfl, hb2⟩; have HB2 := Aside0.mk hb2; clear hb2)
        go_roundg (gk - 1)
        case measure => have := HK.out; omega
        case rel =>
          refine ⟨kk + 1, by go_num, ⟨by have := HK.out; omega⟩, ⟨fun j hj => ?_⟩, ⟨HB.out.trans (HB2.out.mono HB.out.size)⟩⟩
          by_cases e : j = kk
          · subst e
            rw [B.out]; exact HQ.out
          · exact A.out j (by omega)
    · have hltz : decide ((kk : Int) < (zs.length : Int)) = false := by simp; omega
      have hkk : kk = zs.length := by have := HK.out; omega
      go_wp2
      go_ret
      refine ⟨?_, HB.out⟩
      have := Lib.idxBy_miss (fun _ y => p y) zs zs.length default (by rw [← hkk]; exact A.out)
      rw [List.take_length] at this
      rw [this]
      rfl

set_option maxHeartbeats 1000000 in
theorem contains_byte (g : Nat) (p : UInt8 → Bool) (ok : UInt8 → Prop) (eg : ∀ args w, (callFunc g args).run Tryz.prog w = .ok (.enter g args) w) (b c : Nat) (zs : List UInt8) (w : World) (hb : b < w.heap.size) (hp : PredB g (encB) p ok w) (hok : ∀ x, x ∈ zs → ok x)
    (hbig : zs.length ≤ 4611686018427387904) (hc : ∀ j, j < zs.length → w.cell? ⟨b, j, none⟩ = some (encB zs[j]!)) :
    Calls Tryz.prog 56 #[.slice (some ⟨b, 0, none⟩) zs.length c, .func (.func g) #[] #[]] w fun e w' => e = .returned (.bool (zs.any p)) ∧ Below w.heap.size w w' := by
  rw [show zs.any p = decide (0 ≤ Lib.idxBy (fun _ y => p y) zs default) from (Lib.idxBy_nonneg_iff (fun _ y => p y) zs default).symm]
  have hcon := index_byte g p ok eg b c zs w hb hp hok hbig hc
  generalize Lib.idxBy (fun _ y => p y) zs default = r at hcon ⊢
  have HCon := Aside0.mk hcon
  clear hcon hp hok hc
  go_enter Tryz.func56, Tryz.ntmps56
  go_wp2_with (go_at_call 87; refine HCon.out.mono ?_; rintro e w' ⟨rfl, hb2⟩; have HB2 := Aside0.mk hb2; clear hb2)
  go_ret
  exact ⟨rfl, HB2.out⟩
end Go.Proofs.YtbakoigejihnaaaGreatDoor.Wp
end
section
set_option linter.unusedSectionVars false
set_option linter.unusedSimpArgs false
set_option linter.unusedVariables false
namespace Go.Proofs.YtbakoigejihnaaaGreatDoor.Wp
open Go.RowKit Go.Proofs.YtbakoigejihnaaaGreatDoorW.PrintWords Go.Proofs.YtbakoigejihnaaaGreatDoorW.PrintLast Go.Proofs.YtbakoigejihnaaaGreatDoorW.PrintMore

theorem notpart_calls (s : ByteArray) (w : World) : Calls Tryz.prog 39 #[.string s] w fun e w' => e = .returned (.bool (!partOk s)) ∧ Below w.heap.size w w' := by
  have HP := Aside0.mk (part_calls s w)
  generalize partOk s = r at HP ⊢
  go_enter Tryz.func39, Tryz.ntmps39
  go_wp2_with (go_at_call 40; refine HP.out.mono ?_; rintro e w' ⟨rfl, hb⟩; have HB := Aside0.mk hb; clear hb)
  go_ret
  exact ⟨rfl, HB.out⟩

def slash : ByteArray := ⟨#[47]⟩
/-- the parts of a path -/
def partsOf (s : ByteArray) : List ByteArray := Lib.splitB slash 0 (Lib.countB s slash) s
theorem partsOf_length (s : ByteArray) : (partsOf s).length = Lib.countB s slash + 1 := Lib.splitB_all slash (by decide) 0 _ s rfl

def pathOk (s : ByteArray) : Bool := if 128 < s.size then false else if 8 < (partsOf s).length then false else !((partsOf s).any fun x => !partOk x)

/-- internal/bytealg's variable holds some number -/
def MaxAt (w : World) : Prop := 0 < w.heap.size ∧ ∃ m : Int, w.cell? ⟨0, 0, none⟩ = some (.int .i64 m)
theorem MaxAt.below {w w' : World} {B : Nat} (h : MaxAt w) (hb : Below B w w') (hB : 0 < B) : MaxAt w' := by
  obtain ⟨h0, m, h1⟩ := h
  exact ⟨Nat.lt_of_lt_of_le h0 hb.size, m, (hb.cell (p := ⟨0, 0, none⟩) hB).trans h1⟩
theorem MaxAt.of {w w' : World} (h : MaxAt w) (hb : Below w.heap.size w w') : MaxAt w' := h.below hb h.1

set_option maxHeartbeats 4000000 in
theorem path_calls (s : ByteArray) (hs : s.size ≤ 1000000) (w : World) (hM : MaxAt w) : Calls Tryz.prog 15 #[.string s] w fun e w' => e = .returned (.int .i64 (if pathOk s then 0 else 2)) ∧ Below w.heap.size w w' := by
  obtain ⟨_, m, hm⟩ := hM
  have hsplit := Tryz.strings_Split s slash m w (by omega) hm (by decide)
  have hlen := partsOf_length s
  change Calls Tryz.prog 37 _ _ (fun e w' => e = .returned (.slice (some ⟨w.heap.size, 0, none⟩) (Lib.countB s slash + 1) (Lib.countB s slash + 1)) ∧ w' = w.alloc (.cells ((partsOf s).map Value.string).toArray 9)) at hsplit
  rw [← hlen] at hsplit
  have hle : (partsOf s).length ≤ 1000001 := by
    have := Lib.countB_le slash (by decide) s.size s (Nat.le_refl _)
    omega
  unfold pathOk
  generalize partsOf s = L at *
  have hcon := contains_str 39 (fun x => !partOk x) (fun _ => True) (enters_of Tryz.func39 (by kernel_rfl) rfl) w.heap.size L.length L (w.alloc (.cells (L.map Value.string).toArray 9)) (by simp)
    (fun W x _ _ => notpart_calls x W) (fun _ _ => trivial) (by omega) (by
      intro j hj
      have hn := heap_alloc_new w (.cells (L.map Value.string).toArray 9)
      have := World.news_of_block hn j (.string L[j]!) (by rw [getElem!_pos L j hj]; simp [hj])
      rw [show (⟨w.heap.size, j, none⟩ : Addr) = (⟨w.heap.size, 0, none⟩ : Addr).add j by simp [Addr.add]]
      exact this)
  generalize (L.any fun x => !partOk x) = r at hcon ⊢
  have HS := Aside0.mk hsplit
  have HC := Aside0.mk hcon
  have HL := Aside0.mk hlen
  clear hsplit hcon hm hlen
  by_cases h1 : 128 < s.size
  · rw [if_pos h1]
    have b1 : decide ((128 : Int) < (s.size : Int)) = true := by simp; omega
    clear h1
    go_enter Tryz.func15, Tryz.ntmps15
    go_wp2_with (go_at_call 37; refine HS.out.mono ?_; rintro e w' ⟨rfl, rfl⟩)
    go_ret
    exact ⟨rfl, (Below.refl _ _).alloc (Nat.le_refl _) _⟩
  · rw [if_neg h1]
    have b1 : decide ((128 : Int) < (s.size : Int)) = false := by simp; omega
    by_cases h2 : 8 < L.length
    · rw [if_pos h2]
      have b2 : decide ((8 : Int) < (L.length : Int)) = true := by simp; omega
      clear h1 h2
      go_enter Tryz.func15, Tryz.ntmps15
      go_wp2_with (go_at_call 37; refine HS.out.mono ?_; rintro e w' ⟨rfl, rfl⟩)
      go_ret
      exact ⟨rfl, (Below.refl _ _).alloc (Nat.le_refl _) _⟩
    · rw [if_neg h2]
      have b2 : decide ((8 : Int) < (L.length : Int)) = false := by simp; omega
      clear h1 h2
      cases r
      all_goals
        go_enter Tryz.func15, Tryz.ntmps15
        go_wp2_with (first | (go_at_call 37; refine HS.out.mono ?_; rintro e w' ⟨rfl, rfl⟩) | (go_at_call 38; refine HC.out.mono ?_; rintro e w' ⟨rfl, hb⟩; have HB := Aside0.mk hb; clear hb))
        go_ret
        exact ⟨rfl, ((Below.refl _ _).alloc (Nat.le_refl _) _).trans (HB.out.mono (by simp))⟩
end Go.Proofs.YtbakoigejihnaaaGreatDoor.Wp
end
section
set_option linter.unusedSectionVars false
set_option linter.unusedSimpArgs false
set_option linter.unusedVariables false
namespace Go.Proofs.YtbakoigejihnaaaGreatDoor.Wp
open Go.RowKit Go.Proofs.YtbakoigejihnaaaGreatDoorW.PrintWords Go.Proofs.YtbakoigejihnaaaGreatDoorW.PrintLast Go.Proofs.YtbakoigejihnaaaGreatDoorW.PrintMore
open Ref (Lx k35 at_T35 rd_T35 rd_lx)

def blankB (c : UInt8) : Bool := decide (c.toNat ≤ 32) || decide (c.toNat = 127)

theorem blank_calls (c : UInt8) (w : World) : Calls Tryz.prog 45 #[encB c] w fun e w' => e = .returned (.bool (blankB c)) ∧ Below w.heap.size w w' := by
  have h := Ref.normalize_blank.calls (c.toNat : Int) (blankB c) w (by
    unfold Ref.normalize_blank.f blankB
    by_cases g : c.toNat ≤ 32
    · rw [if_pos (by omega)]; simp [g]
    · rw [if_neg (by omega)]
      simp only [g, decide_false, Bool.false_or, Option.some.injEq]
      rw [Bool.eq_iff_iff, beq_iff_eq, decide_eq_true_eq]
      omega)
  exact h.mono fun _ _ ⟨he, hd⟩ => ⟨he, hd.below⟩

theorem contains_blank (s : ByteArray) (hs : s.size ≤ 1000000) (c : Nat) (W : World) (b : Nat) (hb : b = W.heap.size) :
    Calls Tryz.prog 56 #[.slice (some ⟨b, 0, none⟩) s.size c, .func (.func 45) #[] #[]] (Lib.bytesWorld W 5 s) fun e w' => e = .returned (.bool (s.data.toList.any blankB)) ∧ Below W.heap.size W w' := by
  subst hb
  have hl : s.data.toList.length = s.size := by simp
  have h := contains_byte 45 blankB (fun _ => True) (enters_of Tryz.func45 (by kernel_rfl) rfl) W.heap.size c s.data.toList (Lib.bytesWorld W 5 s) (by rw [Lib.bytesWorld_size]; omega)
    (fun W' x _ _ => blank_calls x W') (fun _ _ => trivial) (by omega) (by
      intro j hj
      rw [Lib.bytesWorld_cell W 5 s j (by omega), getElem!_pos _ j hj]
      have hj' : j < s.data.size := by simpa using hj
      simp [encB, List.getD, Array.getElem?_eq_getElem hj'])
  rw [hl] at h
  refine h.mono fun e w' ⟨he, hb⟩ => ⟨he, ?_⟩
  have h1 : Below W.heap.size W (Lib.bytesWorld W 5 s) := ⟨rfl, rfl, rfl, by rw [Lib.bytesWorld_size]; omega, fun k hk => Lib.bytesWorld_at_old W 5 s k hk⟩
  exact h1.trans (hb.mono h1.size)

/-- what stays behind a call that makes memory -/
theorem bq {W w1 : World} {B : Nat} (hb : Below B W w1) : (∀ b o, b < B → w1.cell? ⟨b, o, none⟩ = W.cell? ⟨b, o, none⟩) ∧ W.heap.size ≤ w1.heap.size :=
  ⟨fun b o h => hb.cell (p := ⟨b, o, none⟩) h, hb.size⟩

/-- the words of a valid text -/
def wordOk (least : Int) (x : Lx) : Bool := if x.f0.size = 0 then false else if x.f0.data.toList.any blankB then false else if x.f1 < least then false else if 1024 ≤ x.f1 then false else true
def wordsOk : Int → List Lx → Bool
  | _, [] => true
  | least, x :: l => if wordOk least x then wordsOk x.f1 l else false

set_option maxHeartbeats 8000000 in
set_option maxRecDepth 100000 in
theorem validL_calls (path : ByteArray) (hpath : path.size ≤ 1000000) (A : Option Addr) (l : List Lx) (c : Nat) (w : World) (hM : MaxAt w) (hC : Kd.C k35 w A l.length l) (hl : l.length ≤ 1000000) (hB : ∀ x, x ∈ l → x.f0.size ≤ 1000000) :
    Calls Tryz.prog 24 #[.agg #[.string path, .slice A l.length c]] w fun e w' => e = .returned (.bool (if 8192 < l.length then false else if pathOk path then wordsOk 0 l else false)) ∧ Below w.heap.size w w' := by
  have HM := Aside0.mk hM
  have HC := Aside0.mk hC
  have HB := Aside0.mk hB
  have hp0 := path_calls path hpath
  have HP := Aside0.mk hp0
  clear hM hC hB hp0
  by_cases h1 : 8192 < l.length
  · rw [if_pos h1]
    have b1 : decide ((8192 : Int) < (l.length : Int)) = true := by simp; omega
    clear h1
    go_enter Tryz.func24, Tryz.ntmps24
    go_wp2
    go_ret
    exact ⟨rfl, (Below.refl _ _).alloc (Nat.le_refl _) _⟩
  · rw [if_neg h1]
    have b1 : decide ((8192 : Int) < (l.length : Int)) = false := by simp; omega
    clear h1
    cases hpo : pathOk path with
    | false =>
      rw [if_neg (by decide)]
      have HPo := Aside0.mk hpo
      clear hpo
      go_enter Tryz.func24, Tryz.ntmps24
      go_wp2_with (go_at_call 15; refine (HP.out _ (HM.out.of ((Below.refl _ _).alloc (Nat.le_refl _) _))).mono ?_; rw [HPo.out]; rintro e w' ⟨rfl, hb⟩; have HB2 := Aside0.mk hb; clear hb)
      go_ret
      exact ⟨rfl, ((Below.refl _ _).alloc (Nat.le_refl _) _).trans (HB2.out.mono (by simp))⟩
    | true =>
      rw [if_pos rfl]
      have HPo := Aside0.mk hpo
      clear hpo
      go_enter Tryz.func24, Tryz.ntmps24
      go_wp2_with (go_at_call 15; refine (HP.out _ (HM.out.of ((Below.refl _ _).alloc (Nat.le_refl _) _))).mono ?_; rw [HPo.out]; rintro e w' ⟨rfl, hb⟩; have HB2 := Aside0.mk hb; have hc0 := (hb.cell (p := ⟨w.heap.size, 1, none⟩) (by simp)); have hz := hb.size; clear hb)
      clear HP HPo HM hz
      have HB3 : Aside0 (Below w.heap.size w w') := ⟨((Below.refl _ _).alloc (Nat.le_refl _) _).trans (HB2.out.mono (by simp))⟩
      clear HB2 hc0
      go_loopg [3, 19] l.length (fun gg v3 v19 wr => ∃ (least : Int) (k : Nat), v3 = .int .i64 least ∧ v19 = .int .i64 k ∧ Aside0 (k + gg = l.length) ∧ Aside0 (wordsOk 0 l = wordsOk least (l.drop k)) ∧ Aside0 (Below w.heap.size w wr))
      case atStart => exact ⟨0, 0, rfl, rfl, ⟨by omega⟩, ⟨by simp⟩, HB3⟩
      case round =>
        obtain ⟨least, k, rfl, rfl, HK, HW, HBr⟩ := hrel
        clear HB3
        by_cases hk : k < l.length
        · have hkb : decide ((k : Int) < (l.length : Int)) = true := by simp; omega
          obtain ⟨ad, e1, cw0, cw1⟩ := at_T35 (Kd.C_below HC.out HBr.out) (k : Int) (by omega) (by omega)
          subst e1
          have hx : rd_T35 l (k : Int) = l[k] := rd_lx hk
          rw [hx] at cw0 cw1
          rw [Int.toNat_natCast] at cw0 cw1
          have hsz := HB.out l[k] (List.getElem_mem _)
          have HD : Aside0 (l.drop k = l[k] :: l.drop (k + 1)) := ⟨List.drop_eq_getElem_cons hk⟩
          rw [HD.out] at HW
          clear hx HD
          generalize l[k] = x at cw0 cw1 hsz HW
          obtain ⟨s, ln⟩ := x
          have cw0' : wr.cell? (ad.add (k * 2)) = some (.string s) := cw0
          have cw1' : wr.cell? ⟨(ad.add (k * 2)).block, (ad.add (k * 2)).off + 1, none⟩ = some (.int .i64 ln) := cw1
          clear cw0 cw1
          have hsz' : s.size ≤ 1000000 := hsz
          clear hsz
          have kb := fun W => print_bytes (P := Tryz.prog) 9 120 5 Tryz.underlying9 Tryz.underlying120 Tryz.underlying5 s W
          have hcb0 := contains_blank s hsz'
          have HCb := Aside0.mk hcb0
          clear hcb0
          by_cases h0 : s.size = 0
          · have he : s.toList.isEmpty = true := by
              rw [Lib.toList_data, List.isEmpty_iff]
              exact List.eq_nil_of_length_eq_zero (by rw [← Lib.size_eq]; exact h0)
            have HWk : Aside0 (wordOk least ⟨s, ln⟩ = false) := ⟨by unfold wordOk; rw [if_pos h0]⟩
            clear h0
            go_wp2
            go_ret
            exact ⟨by rw [HW.out]; simp only [wordsOk, HWk.out]; rfl, HBr.out.alloc HBr.out.size _⟩
          · have he : s.toList.isEmpty = false := by
              rw [Lib.toList_data, List.isEmpty_eq_false_iff]
              intro h
              have := congrArg List.length h
              rw [← Lib.size_eq] at this
              simp only [List.length_nil] at this
              omega
            cases hbl : s.data.toList.any blankB with
            | true =>
              have HWk : Aside0 (wordOk least ⟨s, ln⟩ = false) := ⟨by unfold wordOk; rw [if_neg h0, if_pos hbl]⟩
              have HBl := Aside0.mk hbl
              clear h0 hbl
              go_wp2_with (go_at_call 56; (with_reducible refine (HCb.out _ _ _ (by simp)).mono ?_); rw [HBl.out]; rintro e w2 ⟨rfl, hb⟩; have HB4 := Aside0.mk hb; have hq := (hb.cell (p := ⟨wr.heap.size, 1, none⟩) (by simp)).trans (World.news_of_block (heap_alloc_new wr (.cells #[Value.string s, Value.int IntKind.i64 ln] 35)) 1 _ rfl); clear hb)
              go_ret
              exact ⟨by rw [HW.out]; simp only [wordsOk, HWk.out]; rfl, (HBr.out.alloc HBr.out.size _).trans (HB4.out.mono (by have := HBr.out.size; simp; omega))⟩
            | false =>
              have HBl := Aside0.mk hbl
              by_cases h1 : ln < least
              · have b2 : decide (ln < least) = true := decide_eq_true h1
                have HWk : Aside0 (wordOk least ⟨s, ln⟩ = false) := ⟨by unfold wordOk; rw [if_neg h0, if_neg (by rw [hbl]; decide), if_pos h1]⟩
                clear h0 hbl h1
                go_wp2_with (go_at_call 56; (with_reducible refine (HCb.out _ _ _ (by simp)).mono ?_); rw [HBl.out]; rintro e w2 ⟨rfl, hb⟩; have HB4 := Aside0.mk hb; have hq := (hb.cell (p := ⟨wr.heap.size, 1, none⟩) (by simp)).trans (World.news_of_block (heap_alloc_new wr (.cells #[Value.string s, Value.int IntKind.i64 ln] 35)) 1 _ rfl); clear hb)
                go_ret
                exact ⟨by rw [HW.out]; simp only [wordsOk, HWk.out]; rfl, (HBr.out.alloc HBr.out.size _).trans (HB4.out.mono (by have := HBr.out.size; simp; omega))⟩
              · have b2 : decide (ln < least) = false := decide_eq_false h1
                by_cases h2 : 1024 ≤ ln
                · have b3 : decide (1024 ≤ ln) = true := decide_eq_true h2
                  have HWk : Aside0 (wordOk least ⟨s, ln⟩ = false) := ⟨by unfold wordOk; rw [if_neg h0, if_neg (by rw [hbl]; decide), if_neg h1, if_pos h2]⟩
                  clear h0 hbl h1 h2
                  go_wp2_with (go_at_call 56; (with_reducible refine (HCb.out _ _ _ (by simp)).mono ?_); rw [HBl.out]; rintro e w2 ⟨rfl, hb⟩; have HB4 := Aside0.mk hb; have hq := (hb.cell (p := ⟨wr.heap.size, 1, none⟩) (by simp)).trans (World.news_of_block (heap_alloc_new wr (.cells #[Value.string s, Value.int IntKind.i64 ln] 35)) 1 _ rfl); clear hb)
                  go_ret
                  exact ⟨by rw [HW.out]; simp only [wordsOk, HWk.out]; rfl, (HBr.out.alloc HBr.out.size _).trans (HB4.out.mono (by have := HBr.out.size; simp; omega))⟩
                · have b3 : decide (1024 ≤ ln) = false := decide_eq_false h2
                  have HWk : Aside0 (wordOk least ⟨s, ln⟩ = true) := ⟨by unfold wordOk; rw [if_neg h0, if_neg (by rw [hbl]; decide), if_neg h1, if_neg h2]⟩
                  clear h0 hbl h1 h2
                  go_wp2_with (go_at_call 56; (with_reducible refine (HCb.out _ _ _ (by simp)).mono ?_); rw [HBl.out]; rintro e w2 ⟨rfl, hb⟩; have HB4 := Aside0.mk hb; have hq := (hb.cell (p := ⟨wr.heap.size, 1, none⟩) (by simp)).trans (World.news_of_block (heap_alloc_new wr (.cells #[Value.string s, Value.int IntKind.i64 ln] 35)) 1 _ rfl); clear hb)
                  go_roundg (gk - 1)
                  case measure => have := HK.out; omega
                  case rel =>
                    exact ⟨ln, k + 1, rfl, by go_num, ⟨by have := HK.out; omega⟩, ⟨by rw [HW.out]; simp only [wordsOk, HWk.out]; rfl⟩, ⟨(HBr.out.alloc HBr.out.size _).trans (HB4.out.mono (by have := HBr.out.size; simp; omega))⟩⟩
        · have hkb : decide ((k : Int) < (l.length : Int)) = false := by simp; omega
          go_wp2
          go_ret
          refine ⟨?_, HBr.out⟩
          rw [HW.out, List.drop_of_length_le (by omega)]
          rfl
end Go.Proofs.YtbakoigejihnaaaGreatDoor.Wp
end
section
namespace Go
open Go.RowKit

/-- a world behind w: all that lay in w lies unturned -/
structure After (w : World) where
  u : World
  h : Below w.heap.size w u

instance (w : World) : Inhabited (After w) := ⟨⟨w, Below.refl _ _⟩⟩

theorem wp_region_after {P : Program} {id : Nat} {Q : Exit → Act → World → Prop} {a : Act} {w : World} {l : List Oper} (hm : P.follows .mixedOrders = true) (hB : Region.lexB .any l.toArray = true)
    (h : wpQuiet P l.toArray (fun w' => ∃ p : After w, w' = p.u) (fun a' => ∀ w', (∃ p : After w, w' = p.u) → Q .normal a' w') l a) : (Code.region id l.toArray true).wp P Q a w :=
  wp_region_quiet (C := fun w' => ∃ p : After w, w' = p.u) hm hB ⟨⟨w.drew, (Below.refl _ _).drew⟩, rfl⟩ (by simpa using h)

/-- a callee's contract, met in a world of the class -/
theorem Calls.after_of {P : Program} {f : FuncId} {args : Array Value} {w : World} {p : After w} {v : Value}
    (h : Calls P f args p.u fun e w' => e = .returned v ∧ Below p.u.heap.size p.u w') : Calls P f args p.u fun e w'' => e = .returned v ∧ ∃ q : After w, w'' = q.u :=
  h.mono fun _ _ ⟨he, hb⟩ => ⟨he, ⟨_, p.h.trans (hb.mono p.h.size)⟩, rfl⟩

theorem After.cell {w : World} {a : Addr} {v : Value} (h : w.cell? a = some v) (p : After w) : p.u.cell? a = some v :=
  (p.h.cell (World.block_lt_of_cell? w a h)).trans h
end Go
end
section
set_option linter.unusedSectionVars false
set_option linter.unusedSimpArgs false
set_option linter.unusedVariables false
namespace Go.Proofs.YtbakoigejihnaaaGreatDoor.Wp
open Go.RowKit Go.Proofs.YtbakoigejihnaaaGreatDoorW.PrintWords Go.Proofs.YtbakoigejihnaaaGreatDoorW.PrintLast Go.Proofs.YtbakoigejihnaaaGreatDoorW.PrintMore
open Ref (Lx k35 at_T25 rd_T25 k25)

abbrev Tx := Ref.S25
abbrev kTx := Ref.k25
abbrev kLx := Ref.k35

theorem rd_tx {l : List Tx} {i : Nat} (hi : i < l.length) : rd_T25 l (i : Int) = l[i] := by
  unfold Ref.rd_T25
  rw [Int.toNat_natCast, List.getD_eq_getElem?_getD, List.getElem?_eq_getElem hi]; rfl

theorem at_tx {w : World} {A : Option Addr} {T : List Tx} (h : Kd.C kTx w A T.length T) {i : Nat} (hi : i < T.length) : ∃ ad A1 c1, A = some ad ∧ w.cell? (ad.add (i * 2)) = some (.string T[i].f0) ∧ w.cell? ⟨(ad.add (i * 2)).block, (ad.add (i * 2)).off + 1, none⟩ = some (.slice A1 T[i].f1.length c1) ∧ T[i].f1.length ≤ c1 ∧ Kd.C kLx w A1 T[i].f1.length T[i].f1 := by
  have := at_T25 h (i : Int) (by omega) (by omega)
  rwa [rd_tx hi, Int.toNat_natCast] at this

/-- sizes that the walks can bear -/
def TxSmall (t : Tx) : Prop := t.f0.size ≤ 1000000 ∧ t.f1.length ≤ 1000000 ∧ ∀ x, x ∈ t.f1 → x.f0.size ≤ 1000000

def validT (t : Tx) : Bool := if 8192 < t.f1.length then false else if pathOk t.f0 then wordsOk 0 t.f1 else false

theorem valid_calls (t : Tx) (hs : TxSmall t) (A : Option Addr) (c : Nat) (w : World) (hM : MaxAt w) (hC : Kd.C kLx w A t.f1.length t.f1) :
    Calls Tryz.prog 24 #[.agg #[.string t.f0, .slice A t.f1.length c]] w fun e w' => e = .returned (.bool (validT t)) ∧ Below w.heap.size w w' :=
  validL_calls t.f0 hs.1 A t.f1 c w hM hC hs.2.1 hs.2.2

def leS (a b : ByteArray) : Bool := Op.bytesLess a.toList b.toList || a.toList == b.toList
def rightOk : Option ByteArray → List Tx → Bool
  | _, [] => true
  | prev, t :: l => if validT t then (match prev with
    | none => rightOk (some t.f0) l
    | some p => if leS t.f0 p then false else rightOk (some t.f0) l) else false
def prevOf (T : List Tx) : Nat → Option ByteArray
  | 0 => none
  | k + 1 => some ((T[k]?.map (·.f0)).getD ByteArray.empty)

set_option maxHeartbeats 8000000 in
set_option maxRecDepth 100000 in
theorem right_calls (T : List Tx) (A : Option Addr) (c : Nat) (w : World) (hM : MaxAt w) (hC : Kd.C kTx w A T.length T) (hl : T.length ≤ 1000000) (hS : ∀ t, t ∈ T → TxSmall t) :
    Calls Tryz.prog 21 #[.slice A T.length c] w fun e w' => e = .returned (.bool (if 64 < T.length then false else rightOk none T)) ∧ Below w.heap.size w w' := by
  have HM := Aside0.mk hM
  have HC := Aside0.mk hC
  have HS := Aside0.mk hS
  clear hM hC hS
  by_cases h1 : 64 < T.length
  · rw [if_pos h1]
    have b1 : decide ((64 : Int) < (T.length : Int)) = true := by simp; omega
    clear h1
    go_enter Tryz.func21, Tryz.ntmps21
    go_wp2
    go_ret
    exact ⟨rfl, Below.refl _ _⟩
  · rw [if_neg h1]
    have b1 : decide ((64 : Int) < (T.length : Int)) = false := by simp; omega
    clear h1
    go_enter Tryz.func21, Tryz.ntmps21
    go_wp2
    go_loopg [10] T.length (fun gg v10 wr => ∃ k : Nat, v10 = .int .i64 k ∧ Aside0 (k + gg = T.length) ∧ Aside0 (rightOk none T = rightOk (prevOf T k) (T.drop k)) ∧ Aside0 (Below w.heap.size w wr))
    case atStart => exact ⟨0, rfl, ⟨by omega⟩, ⟨by simp [prevOf]⟩, ⟨Below.refl _ _⟩⟩
    case round =>
      obtain ⟨k, rfl, HK, HR, HB⟩ := hrel
      by_cases hk : k < T.length
      · have hkb : decide ((k : Int) < (T.length : Int)) = true := by simp; omega
        obtain ⟨ad, A1, c1, e1, cw0, cw1, hle, hCk⟩ := at_tx (Kd.C_below HC.out HB.out) hk
        subst e1
        have hsm := HS.out T[k] (List.getElem_mem _)
        have HD : Aside0 (T.drop k = T[k] :: T.drop (k + 1)) := ⟨List.drop_eq_getElem_cons hk⟩
        have HP : Aside0 (prevOf T (k + 1) = some T[k].f0) := ⟨by simp [prevOf, List.getElem?_eq_getElem hk]⟩
        rw [HD.out] at HR
        have hv0 := fun (c : Nat) (W : World) (hM : MaxAt W) (hC : Kd.C kLx W A1 T[k].f1.length T[k].f1) => valid_calls T[k] hsm A1 c W hM hC
        have HCk := Aside0.mk hCk
        clear hsm HD hCk hle
        generalize T[k] = t at cw0 cw1 HR HP hv0 HCk
        have HV := Aside0.mk hv0
        clear hv0
        obtain ⟨p, ws⟩ := t
        have cw0' : wr.cell? (ad.add (k * 2)) = some (.string p) := cw0
        have cw1' : wr.cell? ⟨(ad.add (k * 2)).block, (ad.add (k * 2)).off + 1, none⟩ = some (.slice A1 ws.length c1) := cw1
        clear cw0 cw1
        have HB1 : Aside0 (Below wr.heap.size wr (wr.alloc (.cells #[.string p, .slice A1 ws.length c1] 25))) := ⟨(Below.refl _ _).alloc (Nat.le_refl _) _⟩
        have HB1d : Aside0 (Below wr.heap.size wr (wr.alloc (.cells #[.string p, .slice A1 ws.length c1] 25)).drew) := ⟨HB1.out.drew⟩
        have hnew := heap_alloc_new wr (.cells #[.string p, .slice A1 ws.length c1] 25)
        have n0 := World.news_of_block hnew 0 _ rfl
        have n1 := World.news_of_block hnew 1 _ rfl
        have HN := Aside0.mk (And.intro n0 n1)
        clear hnew n0 n1
        cases hvv : validT ⟨p, ws⟩ with
        | false =>
          have HV2 := Aside0.mk hvv
          clear hvv
          go_wp2_with fail
          have g0 : ∀ q : After (wr.alloc (.cells #[.string p, .slice A1 ws.length c1] 25)), q.u.cell? ⟨wr.heap.size, 0, none⟩ = some (.string p) := fun q => q.cell HN.out.1
          have g1 : ∀ q : After (wr.alloc (.cells #[.string p, .slice A1 ws.length c1] 25)), q.u.cell? ⟨wr.heap.size, 0 + 1, none⟩ = some (.slice A1 ws.length c1) := fun q => q.cell HN.out.2
          have HVq : Aside0 (∀ q : After (wr.alloc (.cells #[.string p, .slice A1 ws.length c1] 25)), Calls Tryz.prog 24 #[.agg #[.string p, .slice A1 ws.length c1]] q.u fun e w'' => e = .returned (.bool false) ∧ ∃ r : After (wr.alloc (.cells #[.string p, .slice A1 ws.length c1] 25)), w'' = r.u) := ⟨fun q => by
            have hb := HB1.out.trans (q.h.mono HB1.out.size)
            have := HV.out c1 q.u ((HM.out.of HB.out).of hb) (Kd.C_below HCk.out hb)
            rw [HV2.out] at this
            exact Calls.after_of this⟩
          refine wp_region_after (by kernel_rfl) (by kernel_rfl) ?_
          repeat (go_big_quiet_step ((first | (go_at_call 24; with_reducible exact HVq.out _) | (with_reducible rfl))))
          refine wpQuiet_nil ?_
          intro u hw'
          obtain ⟨q, hw''⟩ := hw'
          have hu := q.h
          rw [← hw''] at hu
          clear hw'' q
          have HU : Aside0 (Below w.heap.size w u) := ⟨(HB.out.alloc HB.out.size _).trans (hu.mono (by have := HB.out.size; simp; omega))⟩
          clear hu g0 g1
          go_wp2
          go_ret
          exact ⟨by rw [HR.out]; simp only [rightOk, HV2.out]; rfl, HU.out⟩
        | true =>
          have HV2 := Aside0.mk hvv
          clear hvv
          cases k with
          | zero =>
            have z0 : wr.cell? ad = some (.string p) := by
              have h := cw0'
              rwa [Nat.zero_mul, show ad.add 0 = ad by simp [Addr.add]] at h
            have z1 : wr.cell? ⟨ad.block, ad.off + 1, none⟩ = some (.slice A1 ws.length c1) := by
              have h := cw1'
              rwa [Nat.zero_mul, show ad.add 0 = ad by simp [Addr.add]] at h
            clear cw0' cw1'
            go_wp2_with fail
            have g0 : ∀ q : After (wr.alloc (.cells #[.string p, .slice A1 ws.length c1] 25)), q.u.cell? ⟨wr.heap.size, 0, none⟩ = some (.string p) := fun q => q.cell HN.out.1
            have g1 : ∀ q : After (wr.alloc (.cells #[.string p, .slice A1 ws.length c1] 25)), q.u.cell? ⟨wr.heap.size, 0 + 1, none⟩ = some (.slice A1 ws.length c1) := fun q => q.cell HN.out.2
            have HVq : Aside0 (∀ q : After (wr.alloc (.cells #[.string p, .slice A1 ws.length c1] 25)), Calls Tryz.prog 24 #[.agg #[.string p, .slice A1 ws.length c1]] q.u fun e w'' => e = .returned (.bool true) ∧ ∃ r : After (wr.alloc (.cells #[.string p, .slice A1 ws.length c1] 25)), w'' = r.u) := ⟨fun q => by
              have hb := HB1.out.trans (q.h.mono HB1.out.size)
              have := HV.out c1 q.u ((HM.out.of HB.out).of hb) (Kd.C_below HCk.out hb)
              rw [HV2.out] at this
              exact Calls.after_of this⟩
            refine wp_region_after (by kernel_rfl) (by kernel_rfl) ?_
            repeat (go_big_quiet_step ((first | (go_at_call 24; with_reducible exact HVq.out _) | (with_reducible rfl))))
            refine wpQuiet_nil ?_
            intro u hw'
            obtain ⟨q, hw''⟩ := hw'
            have hu := q.h
            rw [← hw''] at hu
            clear hw'' q
            have HU : Aside0 (Below w.heap.size w u) := ⟨(HB.out.alloc HB.out.size _).trans (hu.mono (by have := HB.out.size; simp; omega))⟩
            clear hu g0 g1
            go_wp2
            go_roundg (gk - 1)
            case measure => have := HK.out; omega
            case rel => exact ⟨1, rfl, ⟨by have := HK.out; omega⟩, ⟨by have hp : prevOf T 1 = some p := HP.out; rw [HR.out, hp]; simp only [rightOk, HV2.out, prevOf]; rfl⟩, HU⟩
          | succ k =>
            obtain ⟨ad', A2, c2, e2, cp0, _, _, _⟩ := at_tx (Kd.C_below HC.out HB.out) (i := k) (by omega)
            obtain rfl : ad = ad' := by injection e2
            clear e2
            have HPp : Aside0 (prevOf T (k + 1) = some T[k].f0) := ⟨by simp [prevOf, List.getElem?_eq_getElem (show k < T.length by omega)]⟩
            generalize T[k].f0 = pp at cp0 HPp
            rw [HPp.out] at HR
            cases hle : leS p pp with
            | true =>
              have b3 : (Op.bytesLess p.toList pp.toList || p.toList == pp.toList) = true := hle
              have HLe := Aside0.mk hle
              clear hle
              go_wp2_with fail
              have g0 : ∀ q : After (wr.alloc (.cells #[.string p, .slice A1 ws.length c1] 25)), q.u.cell? ⟨wr.heap.size, 0, none⟩ = some (.string p) := fun q => q.cell HN.out.1
              have g1 : ∀ q : After (wr.alloc (.cells #[.string p, .slice A1 ws.length c1] 25)), q.u.cell? ⟨wr.heap.size, 0 + 1, none⟩ = some (.slice A1 ws.length c1) := fun q => q.cell HN.out.2
              have g2 : ∀ q : After (wr.alloc (.cells #[.string p, .slice A1 ws.length c1] 25)), q.u.cell? (ad.add (k * 2)) = some (.string pp) := fun q => ((HB1.out.trans (q.h.mono HB1.out.size)).cell (World.block_lt_of_cell? wr _ cp0)).trans cp0
              have HVq : Aside0 (∀ q : After (wr.alloc (.cells #[.string p, .slice A1 ws.length c1] 25)), Calls Tryz.prog 24 #[.agg #[.string p, .slice A1 ws.length c1]] q.u fun e w'' => e = .returned (.bool true) ∧ ∃ r : After (wr.alloc (.cells #[.string p, .slice A1 ws.length c1] 25)), w'' = r.u) := ⟨fun q => by
                have hb := HB1.out.trans (q.h.mono HB1.out.size)
                have := HV.out c1 q.u ((HM.out.of HB.out).of hb) (Kd.C_below HCk.out hb)
                rw [HV2.out] at this
                exact Calls.after_of this⟩
              refine wp_region_after (by kernel_rfl) (by kernel_rfl) ?_
              repeat (go_big_quiet_step ((first | (go_at_call 24; with_reducible exact HVq.out _) | (with_reducible rfl))))
              refine wpQuiet_nil ?_
              intro u hw'
              obtain ⟨q, hw''⟩ := hw'
              have hu := q.h
              rw [← hw''] at hu
              clear hw'' q
              have HU : Aside0 (Below w.heap.size w u) := ⟨(HB.out.alloc HB.out.size _).trans (hu.mono (by have := HB.out.size; simp; omega))⟩
              clear hu g0 g1 g2
              go_wp2
              go_ret
              exact ⟨by rw [HR.out]; simp only [rightOk, HV2.out, HLe.out]; rfl, HU.out⟩
            | false =>
              have b3 : (Op.bytesLess p.toList pp.toList || p.toList == pp.toList) = false := hle
              have HLe := Aside0.mk hle
              clear hle
              go_wp2_with fail
              have g0 : ∀ q : After (wr.alloc (.cells #[.string p, .slice A1 ws.length c1] 25)), q.u.cell? ⟨wr.heap.size, 0, none⟩ = some (.string p) := fun q => q.cell HN.out.1
              have g1 : ∀ q : After (wr.alloc (.cells #[.string p, .slice A1 ws.length c1] 25)), q.u.cell? ⟨wr.heap.size, 0 + 1, none⟩ = some (.slice A1 ws.length c1) := fun q => q.cell HN.out.2
              have g2 : ∀ q : After (wr.alloc (.cells #[.string p, .slice A1 ws.length c1] 25)), q.u.cell? (ad.add (k * 2)) = some (.string pp) := fun q => ((HB1.out.trans (q.h.mono HB1.out.size)).cell (World.block_lt_of_cell? wr _ cp0)).trans cp0
              have HVq : Aside0 (∀ q : After (wr.alloc (.cells #[.string p, .slice A1 ws.length c1] 25)), Calls Tryz.prog 24 #[.agg #[.string p, .slice A1 ws.length c1]] q.u fun e w'' => e = .returned (.bool true) ∧ ∃ r : After (wr.alloc (.cells #[.string p, .slice A1 ws.length c1] 25)), w'' = r.u) := ⟨fun q => by
                have hb := HB1.out.trans (q.h.mono HB1.out.size)
                have := HV.out c1 q.u ((HM.out.of HB.out).of hb) (Kd.C_below HCk.out hb)
                rw [HV2.out] at this
                exact Calls.after_of this⟩
              refine wp_region_after (by kernel_rfl) (by kernel_rfl) ?_
              repeat (go_big_quiet_step ((first | (go_at_call 24; with_reducible exact HVq.out _) | (with_reducible rfl))))
              refine wpQuiet_nil ?_
              intro u hw'
              obtain ⟨q, hw''⟩ := hw'
              have hu := q.h
              rw [← hw''] at hu
              clear hw'' q
              have HU : Aside0 (Below w.heap.size w u) := ⟨(HB.out.alloc HB.out.size _).trans (hu.mono (by have := HB.out.size; simp; omega))⟩
              clear hu g0 g1 g2
              go_wp2
              go_roundg (gk - 1)
              case measure => have := HK.out; omega
              case rel => exact ⟨k + 1 + 1, by go_num, ⟨by have := HK.out; omega⟩, ⟨by rw [HR.out, HP.out]; simp only [rightOk, HV2.out, HLe.out]; rfl⟩, HU⟩
      · have hkb : decide ((k : Int) < (T.length : Int)) = false := by simp; omega
        go_wp2
        go_ret
        refine ⟨?_, HB.out⟩
        rw [HR.out, List.drop_of_length_le (by omega)]
        cases k <;> rfl
end Go.Proofs.YtbakoigejihnaaaGreatDoor.Wp
end
section
set_option linter.unusedSectionVars false
set_option linter.unusedSimpArgs false
set_option linter.unusedVariables false
namespace Go.Proofs.YtbakoigejihnaaaGreatDoor.Wp
open Go.RowKit Go.Proofs.YtbakoigejihnaaaGreatDoorW.PrintWords Go.Proofs.YtbakoigejihnaaaGreatDoorW.PrintLast Go.Proofs.YtbakoigejihnaaaGreatDoorW.PrintMore
open Ref (Lx txt txt_length)

/-- pairs of numbers: a fingerprint, a place -/
abbrev kPr : Kd (Int × Int) := Kd.pair (Kd.int .i64) (Kd.int .i64)
theorem kPr_mkM (w : World) (base : Nat) (ok : Nat → Prop) (x : Int × Int) : kPr.M w base ok x [.int .i64 x.1, .int .i64 x.2] := ⟨[.int .i64 x.1], [.int .i64 x.2], rfl, rfl, rfl⟩
theorem kPr_open {w : World} {x : Int × Int} {cs : List Value} (h : kPr.K w x cs) : cs = [.int .i64 x.1, .int .i64 x.2] := by
  obtain ⟨_, _, rfl, rfl, rfl⟩ := h
  exact rfl
theorem at_pr {w : World} {A : Option Addr} {n : Nat} {T : List (Int × Int)} (h : Kd.C kPr w A n T) {i : Nat} (hi : i < n) :
    ∃ ad, A = some ad ∧ w.cell? (ad.add (i * 2)) = some (.int .i64 (T.getD i (0, 0)).1) ∧ w.cell? ⟨(ad.add (i * 2)).block, (ad.add (i * 2)).off + 1, none⟩ = some (.int .i64 (T.getD i (0, 0)).2) := by
  obtain ⟨ad, c, e, _, hK, hc0⟩ := Kd.C_get h ((0 : Int), (0 : Int)) (i : Int) (by omega) (by omega)
  have hc : ∀ j u, c[j]? = some u → w.cell? (ad.add ((i : Int).toNat * 2 + j)) = some u := hc0
  obtain rfl := kPr_open hK
  rw [Int.toNat_natCast] at hc
  exact ⟨ad, e, hc 0 _ rfl, by rw [← add_field _ _ 1 (by omega)]; exact hc 1 _ rfl⟩

theorem info_print : (Tryz.prog.info? 88).map (fun i => (i.zero, i.size, i.bytes)) = some (some (.agg #[.int .i64 0, .int .i64 0]), 2, 16) := by kernel_rfl

/-- the fingerprints of a text, as they lie in memory -/
def prS (k w : Nat) (W : List ByteArray) : List (Int × Int) := (Kl.printsW k w W).map fun p => (p.1, ((p.2 : Nat) : Int))
theorem prS_select (k w : Nat) (W : List ByteArray) : prS k w W = (Kl.select (Kl.gramsW k W) w).map fun a => ((Kl.gramsW k W).getD a 0, ((a : Nat) : Int)) := by
  unfold prS Kl.printsW Kl.prints
  rw [List.map_map]; rfl

theorem size_calls (n : Nat) (h0 : 1 ≤ n) (h1 : n ≤ 1024) (w : World) : Calls Tryz.prog 52 #[.int .i64 (n : Nat)] w fun e w' => e = .returned (.bool true) ∧ w' = w := by
  have b1 : decide ((1 : Int) ≤ (n : Int)) = true := by simp; omega
  have b2 : decide ((n : Int) ≤ 1024) = true := by simp; omega
  clear h0 h1
  go_enter Tryz.func52, Tryz.ntmps52
  go_wp2
  go_ret
  exact ⟨rfl, rfl⟩

/-- what Prints leaves -/
def PrPost (base k w : Nat) (W : List ByteArray) (w0 : World) (e : Ending) (w' : World) : Prop :=
  ∃ v, e = .returned (.tuple #[v, .int .i64 0]) ∧ Kd.R kPr 88 w' base (fun _ => True) v (prS k w W) ∧ Below base w0 w'

set_option maxHeartbeats 8000000 in
set_option maxRecDepth 100000 in
theorem prints_calls (t : Tx) (hs : TxSmall t) (hv : validT t = true) (A : Option Addr) (c : Nat) (w : World) (hM : MaxAt w) (hC : Kd.C kLx w A t.f1.length t.f1) (hc : t.f1.length ≤ c) (k wi : Nat) (hk0 : 1 ≤ k) (hk1 : k ≤ 1024) (hw0 : 1 ≤ wi) (hw1 : wi ≤ 1024) :
    Calls Tryz.prog 29 #[.agg #[.string t.f0, .slice A t.f1.length c], .int .i64 (k : Nat), .int .i64 (wi : Nat)] w (PrPost w.heap.size k wi (txt t.f1) w) := by
  have hlen : t.f1.length ≤ 8192 := by
    unfold validT at hv
    by_cases h : 8192 < t.f1.length
    · rw [if_pos h] at hv; cases hv
    · omega
  have hval := fun W hM hC => valid_calls t hs A c W hM hC
  rw [hv] at hval
  obtain ⟨p, ws⟩ := t
  simp only at hlen hc hC hval ⊢
  have hB : Ref.Small 1000000 ws := ⟨by decide, hs.2.2⟩
  have hg := Ref.grams_ev hB hlen hk0 (by omega : k ≤ 8192)
  have hgl : (Kl.gramsW k (txt ws)).length ≤ 8192 := by
    have : (Kl.gramsW k (txt ws)).length ≤ (txt ws).length := Kl.grams_le Kl.hashL hk0 (W := txt ws)
    rw [txt_length] at this
    omega
  have hsel := Ref.select_ev (l := Kl.gramsW k (txt ws)) hw0 hw1 hgl
  have hso := Kl.select_ok (Kl.gramsW k (txt ws)) hw0
  have hsl := Kl.select_length (Kl.gramsW k (txt ws)) hw0
  have HPS := Aside0.mk (prS_select k wi (txt ws))
  unfold PrPost
  generalize prS k wi (txt ws) = PS at HPS ⊢
  generalize Kl.gramsW k (txt ws) = G at hg hgl hsel hso hsl HPS
  have HV := Aside0.mk hval
  have HM := Aside0.mk hM
  have HC := Aside0.mk hC
  have HG := Aside0.mk hg
  have HSel := Aside0.mk hsel
  have HSo := Aside0.mk hso
  clear hval hM hC hg hsel hso hv hs hB
  have HB1 : Aside0 (Below w.heap.size w (w.alloc (.cells #[.string p, .slice A ws.length c] 25))) := ⟨(Below.refl _ _).alloc (Nat.le_refl _) _⟩
  have hnew := heap_alloc_new w (.cells #[.string p, .slice A ws.length c] 25)
  have n1 := World.news_of_block hnew 1 _ rfl
  have HN := Aside0.mk n1
  clear hnew n1
  go_enter Tryz.func29, Tryz.ntmps29
  go_wp2_with fail
  (with_reducible refine (HV.out _ (HM.out.of HB1.out) (Kd.C_below HC.out HB1.out)).mono ?_)
  rintro e w2 ⟨rfl, hb⟩
  have HB2 : Aside0 (Below w.heap.size w w2) := ⟨HB1.out.trans (hb.mono (by simp))⟩
  have hq := (hb.cell (p := ⟨w.heap.size, 1, none⟩) (by simp)).trans HN.out
  clear hb HB1 HN HV
  go_wp2_with fail
  (with_reducible refine (size_calls k hk0 hk1 _).mono ?_)
  rintro e w' ⟨rfl, rfl⟩
  go_wp2_with fail
  (with_reducible refine (size_calls wi hw0 hw1 _).mono ?_)
  rintro e w' ⟨rfl, rfl⟩
  go_wp2_with fail
  (with_reducible refine (Ref.rolling_Grams.calls (ws.length + 1000000 + 8200) A c ws (k : Int) G 0 _ (Kd.C_below HC.out HB2.out) hc HG.out).mono ?_)
  rintro e w3 ⟨v1, rfl, hr, hb⟩
  obtain ⟨A1, c1, rfl, hc1, hC1⟩ := Kd.R_reads hr
  have HC1 := Aside0.mk hC1
  have HB3 : Aside0 (Below w.heap.size w w3) := ⟨HB2.out.trans (hb.mono HB2.out.size)⟩
  have HR1 : Aside0 (Kd.R (Kd.int .i64) 3 w3 w.heap.size (fun _ => True) (.slice A1 G.length c1) G) := ⟨Kd.R_lower hr HB2.out.size⟩
  clear hr hC1 hb hq HB2
  go_wp2_with fail
  (with_reducible refine (Ref.winnow_Select.calls (G.length * (G.length + 5) + 1) A1 c1 G (wi : Int) (Ref.ints (Kl.select G wi)) 0 _ HC1.out hc1 HSel.out).mono ?_)
  rintro e w4 ⟨v2, rfl, hr, hb⟩
  obtain ⟨A2, c2, rfl, hc2, hC2⟩ := Kd.R_reads hr
  rw [Ref.ints_length] at hC2 hc2 ⊢
  have HB4 : Aside0 (Below w.heap.size w w4) := ⟨HB3.out.trans (hb.mono HB3.out.size)⟩
  have HR2 : Aside0 (Kd.R (Kd.int .i64) 3 w4 w.heap.size (fun _ => True) (.slice A2 (Kl.select G wi).length c2) (Ref.ints (Kl.select G wi))) := ⟨by have := Kd.R_lower hr HB3.out.size; rwa [Ref.ints_length] at this⟩
  have HR1' : Aside0 (Kd.R (Kd.int .i64) 3 w4 w.heap.size (fun _ => True) (.slice A1 G.length c1) G) := ⟨Kd.R_below HR1.out hb⟩
  clear hr hC2 hb HC1 HB3 HR1
  go_wp2_with fail
  clear HM HC HG HSel
  generalize hS : Kl.select G wi = S at *
  have HS := Aside0.mk hS
  clear hS
  have HE : Aside0 (∀ i, i < S.length → S.getD i 0 < G.length) := ⟨fun i hi => by
    have := HSo.out.lt (S.getD i 0) (by rw [List.getD_eq_getElem?_getD, List.getElem?_eq_getElem hi]; exact List.getElem_mem _)
    exact this⟩
  have HPSt : Aside0 (∀ i, i < S.length → PS.take (i + 1) = PS.take i ++ [(G.getD (S.getD i 0) 0, ((S.getD i 0 : Nat) : Int))]) := ⟨fun i hi => by
    rw [HPS.out, List.take_succ_eq_append_getElem (by simpa using hi)]
    congr 1
    simp [List.getD, hi]⟩
  have HPl : Aside0 (PS.length = S.length) := ⟨by rw [HPS.out]; simp⟩
  clear HSo HPS
  go_loopg [11, 48] S.length (fun gg v11 v48 wr => ∃ i : Nat, v48 = .int .i64 i ∧ Aside0 (i + gg = S.length) ∧ Aside0 (Kd.R kPr 88 wr w.heap.size (fun _ => True) v11 (PS.take i)) ∧ Aside0 (Below w.heap.size w wr) ∧ Aside0 (Kd.R (Kd.int .i64) 3 wr w.heap.size (fun _ => True) (.slice A1 G.length c1) G) ∧ Aside0 (Kd.R (Kd.int .i64) 3 wr w.heap.size (fun _ => True) (.slice A2 S.length c2) (Ref.ints S)))
  case atStart => exact ⟨0, rfl, ⟨by omega⟩, ⟨by simpa using Kd.R_nil kPr _ _ _ _⟩, HB4, HR1', HR2⟩
  case round =>
    obtain ⟨i, rfl, HK, HO, HB, HG1, HP1⟩ := hrel
    clear HB4 HR1' HR2
    by_cases hi : i < S.length
    · have hib : decide ((i : Int) < (S.length : Int)) = true := by simp; omega
      obtain ⟨ad2, e2, cp⟩ := Kd.at_int (by have := (Kd.R_reads' HP1.out).2.2; rwa [Ref.ints_length] at this) (i : Int) (by omega) (by omega)
      subst e2
      have he := HE.out i hi
      have hrd : rd (Ref.ints S) (i : Int) = ((S.getD i 0 : Nat) : Int) := by
        rw [Ref.rd_ints hi, List.getD_eq_getElem?_getD, List.getElem?_eq_getElem hi]; rfl
      rw [hrd, Int.toNat_natCast] at cp
      have HT := Aside0.mk (HPSt.out i hi)
      generalize S.getD i 0 = s at cp he HT
      obtain ⟨ad1, e1, cg⟩ := Kd.at_int (Kd.R_reads' HG1.out).2.2 (s : Int) (by omega) (by omega)
      subst e1
      rw [Ref.rd_int, Int.toNat_natCast] at cg
      generalize G.getD s 0 = g at cg HT
      clear hrd
      have hul := HPl.out
      have hil : (PS.take i).length = i := by rw [List.length_take]; omega
      have HIL := Aside0.mk hil
      clear hil hul
      go_wp2_with ((with_reducible refine gate_builtin (b := .append) (xs := #[.tmp 52, .tmp 59]) rfl ?_); at_builtin; refine Kd.R_append kPr (w0 := w) w.heap.size rfl (.tmp 52) (.tmp 59) 74 88 (.agg #[.int .i64 0, .int .i64 0]) 16 rfl Tryz.underlying74 info_print rfl (by decide) (by omega) u11 (PS.take i) (g, ((s : Nat) : Int)) [.int .i64 g, .int .i64 ((s : Nat) : Int)] (fun _ => True) (fun _ => False) rfl rfl ?aP (fun _ hk => hk.elim) ?aF ?aO ?aB ?aS ?aL ?_)
      case aP => exact kPr_mkM _ _ _ _
      case aO => exact HO.out
      case aB => exact HB.out
      case aS => exact HB.out.size
      case aL => have := HPl.out; omega
      intro v1 w5 ho hb hg hat
      rw [← HT.out] at ho
      have HO2 := Aside0.mk ho
      have HB2 := Aside0.mk hb
      have HG2 : Aside0 (Kd.R (Kd.int .i64) 3 w5 w.heap.size (fun _ => True) (.slice (some ad1) G.length c1) G) := ⟨Kd.R_over HG1.out HO.out (by decide) hg⟩
      have HP2 : Aside0 (Kd.R (Kd.int .i64) 3 w5 w.heap.size (fun _ => True) (.slice (some ad2) S.length c2) (Ref.ints S)) := ⟨Kd.R_over HP1.out HO.out (by decide) hg⟩
      clear ho hb hg hat HIL
      go_wp2_with fail
      go_roundg (gk - 1)
      case measure => have := HK.out; omega
      case rel => exact ⟨i + 1, by go_num, ⟨by have := HK.out; omega⟩, HO2, HB2, HG2, HP2⟩
    · have hib : decide ((i : Int) < (S.length : Int)) = false := by simp; omega
      go_wp2
      go_ret2
      refine ⟨_, rfl, ?_, HB.out⟩
      have := HO.out
      rwa [List.take_of_length_le (by have := HPl.out; omega)] at this
end Go.Proofs.YtbakoigejihnaaaGreatDoor.Wp
end
