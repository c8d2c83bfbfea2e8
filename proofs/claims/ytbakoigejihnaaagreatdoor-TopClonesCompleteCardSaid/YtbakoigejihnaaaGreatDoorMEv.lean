/- What the printed functions of packages rolling and winnow compute: the hashes and the selection of the plain theory. Conditions: none. -/
import Derived.Test.YtbakoigejihnaaaGreatDoorMRB
import Derived.Test.YtbakoigejihnaaaGreatDoorMKl
import Derived.Test.YtbakoigejihnaaaGreatDoorMRC
section
set_option linter.unusedVariables false
set_option linter.unusedSimpArgs false
namespace Go.Proofs.YtbakoigejihnaaaGreatDoor.Ref
open Go.RowKit Go.Proofs.YtbakoigejihnaaaGreatDoorW.PrintWords Go.Proofs.YtbakoigejihnaaaGreatDoorW.PrintLast Go.Proofs.YtbakoigejihnaaaGreatDoorW.PrintMore
open Kl (prime codeL code push hashL powS rollS gramsW)

/-- the words of a text, without their lines -/
def txt (l : List S35) : List ByteArray := l.map (·.f0)
theorem txt_length (l : List S35) : (txt l).length = l.length := by simp [txt]

theorem w64 {n : Int} (h : -9223372036854775808 ≤ n) (h2 : n < 9223372036854775808) : wrap64 n = n := IntWalk.wrap64_in n (by omega)
theorem u64_wrap (n : Int) : IntKind.u64.wrap n = n % 18446744073709551616 := by simp [IntKind.wrap, IntKind.bits, IntKind.signed]
theorem u64w {n : Int} (h : 0 ≤ n) (h2 : n < 18446744073709551616) : IntKind.u64.wrap n = n := by rw [u64_wrap]; omega

theorem add_ev {a b : Int} (ha : 0 ≤ a) (hb : 0 ≤ b) (hab : a + b < 6917529027641081853) : rolling_add.f a b = some ((a + b) % prime) := by
  unfold rolling_add.f prime
  rw [w64 (by omega) (by omega)]
  by_cases h1 : a + b ≥ 2305843009213693951
  · rw [if_pos h1, w64 (by omega) (by omega)]
    by_cases h2 : a + b - 2305843009213693951 ≥ 2305843009213693951
    · rw [if_pos h2, w64 (by omega) (by omega)]; congr 1; omega
    · rw [if_neg h2]; congr 1; omega
  · rw [if_neg h1]; congr 1; omega

theorem mul_bound {x y X Y : Int} (h0 : 0 ≤ x) (h1 : x ≤ X) (h2 : 0 ≤ y) (h3 : y ≤ Y) : 0 ≤ x * y ∧ x * y ≤ X * Y :=
  ⟨Int.mul_nonneg h0 h2, Int.mul_le_mul h1 h3 h2 (Int.le_trans h0 h1)⟩

theorem and_mask {x : Int} (h0 : 0 ≤ x) (h1 : x < 18446744073709551616) : Go.bits .and .u64 x 4294967295 = x % 4294967296 :=
  bits_mask .u64 64 (by decide) (fun n h h' => u64w h h') 32 (by decide) x h0 h1
theorem and_mask61 {x : Int} (h0 : 0 ≤ x) (h1 : x < 18446744073709551616) : Go.bits .and .u64 x 2305843009213693951 = x % 2305843009213693952 :=
  bits_mask .u64 64 (by decide) (fun n h h' => u64w h h') 61 (by decide) x h0 h1

theorem mul64_ev {a b : Int} (ha : 0 ≤ a) (ha1 : a < 2305843009213693952) (hb : 0 ≤ b) (hb1 : b < 2305843009213693952) :
    bits_Mul64.f a b = some ((a * b) / 18446744073709551616, (a * b) % 18446744073709551616) := by
  unfold bits_Mul64.f
  rw [and_mask ha (by omega), and_mask hb (by omega)]
  obtain ⟨a1, ha'⟩ : ∃ x, x = a / 4294967296 := ⟨_, rfl⟩
  obtain ⟨a0, ha''⟩ : ∃ x, x = a % 4294967296 := ⟨_, rfl⟩
  obtain ⟨b1, hb'⟩ : ∃ x, x = b / 4294967296 := ⟨_, rfl⟩
  obtain ⟨b0, hb''⟩ : ∃ x, x = b % 4294967296 := ⟨_, rfl⟩
  rw [← ha', ← ha'', ← hb', ← hb'']
  have ea : a = a1 * 4294967296 + a0 := by omega
  have eb : b = b1 * 4294967296 + b0 := by omega
  have hM : a * b = (a1 * b1) * 18446744073709551616 + (a1 * b0 + a0 * b1) * 4294967296 + a0 * b0 := by
    rw [ea, eb, Int.add_mul, Int.mul_add, Int.mul_add]
    have e1 : a1 * 4294967296 * (b1 * 4294967296) = (a1 * b1) * 18446744073709551616 := by
      rw [Int.mul_assoc, Int.mul_left_comm 4294967296, ← Int.mul_assoc]; rfl
    have e2 : a1 * 4294967296 * b0 = (a1 * b0) * 4294967296 := by rw [Int.mul_assoc, Int.mul_comm 4294967296 b0, ← Int.mul_assoc]
    have e3 : a0 * (b1 * 4294967296) = (a0 * b1) * 4294967296 := by rw [Int.mul_assoc]
    rw [e1, e2, e3]; omega
  have g11 := mul_bound (x := a1) (y := b1) (X := 536870911) (Y := 536870911) (by omega) (by omega) (by omega) (by omega)
  have g10 := mul_bound (x := a1) (y := b0) (X := 536870911) (Y := 4294967295) (by omega) (by omega) (by omega) (by omega)
  have g01 := mul_bound (x := a0) (y := b1) (X := 4294967295) (Y := 536870911) (by omega) (by omega) (by omega) (by omega)
  have g00 := mul_bound (x := a0) (y := b0) (X := 4294967295) (Y := 4294967295) (by omega) (by omega) (by omega) (by omega)
  generalize a1 * b1 = p11 at *
  generalize a1 * b0 = p10 at *
  generalize a0 * b1 = p01 at *
  generalize a0 * b0 = p00 at *
  generalize a * b = M at *
  clear ha' ha'' hb' hb'' ea eb
  rw [u64w (n := p11) (by omega) (by omega), u64w (n := p10) (by omega) (by omega), u64w (n := p00) (by omega) (by omega), u64w (n := p01) (by omega) (by omega), u64w (n := p10 + p00 / 4294967296) (by omega) (by omega), and_mask (by omega) (by omega),
    u64w (n := p11 + (p10 + p00 / 4294967296) / 4294967296) (by omega) (by omega), u64w (n := (p10 + p00 / 4294967296) % 4294967296 + p01) (by omega) (by omega), u64_wrap, u64_wrap]
  congr 2
  omega

theorem mul_ev {a b : Int} (ha : 0 ≤ a) (ha1 : a < prime) (hb : 0 ≤ b) (hb1 : b < prime) : rolling_mul.f a b = some ((a * b) % prime) := by
  have hp : prime = 2305843009213693951 := rfl
  rw [hp] at ha1 hb1
  unfold rolling_mul.f
  rw [u64w ha (by omega), u64w hb (by omega), mul64_ev ha (by omega) hb (by omega), Option.bind_some]
  have g := mul_bound ha (show a ≤ 2305843009213693950 by omega) hb (show b ≤ 2305843009213693950 by omega)
  generalize a * b = M at *
  show (rolling_add.f (wrap64 (Go.bits .and .u64 (M % 18446744073709551616) 2305843009213693951)) (wrap64 (Go.bits .or .u64 (IntKind.u64.wrap (M / 18446744073709551616 * 8)) (M % 18446744073709551616 / 2305843009213693952)))).bind _ = _
  rw [and_mask61 (by omega) (by omega), u64w (n := M / 18446744073709551616 * 8) (by omega) (by omega)]
  have hj : Go.bits .or .u64 (M / 18446744073709551616 * 8) (M % 18446744073709551616 / 2305843009213693952) = M / 18446744073709551616 * 8 + M % 18446744073709551616 / 2305843009213693952 :=
    bits_join .u64 64 (by decide) (fun n h h' => u64w h h') 3 _ _ (by omega) (by omega) (by omega) (by omega) (by omega) (by omega)
  rw [hj, w64 (by omega) (by omega), w64 (by omega) (by omega), add_ev (by omega) (by omega) (by omega), Option.bind_some, hp]
  congr 1
  omega
end Go.Proofs.YtbakoigejihnaaaGreatDoor.Ref
end
section
set_option linter.unusedVariables false
set_option linter.unusedSimpArgs false
namespace Go.Proofs.YtbakoigejihnaaaGreatDoor.Ref
open Go.RowKit Go.Proofs.YtbakoigejihnaaaGreatDoorW.PrintWords Go.Proofs.YtbakoigejihnaaaGreatDoorW.PrintLast Go.Proofs.YtbakoigejihnaaaGreatDoorW.PrintMore
open Kl (prime codeL code push hashL powS rollS gramsW)

theorem prime_eq : prime = 2305843009213693951 := rfl
theorem mod_range (n : Int) : 0 ≤ n % prime ∧ n % prime < prime := ⟨Int.emod_nonneg _ (by decide), Int.emod_lt_of_pos _ Kl.prime_pos⟩

theorem bt_nat {s : ByteArray} {i : Nat} (hi : i < s.size) : bt s (i : Int) = ((s.data.toList[i]'(by simpa using hi)).toNat : Int) := by
  unfold bt
  simp only [Int.toNat_natCast]
  rw [dif_pos hi]
  rfl

theorem code_l (s : ByteArray) (hs : s.size ≤ 4611686018427387904) : ∀ d i k, i + d = s.size → d < k → rolling_Code.l0 k s (codeL (s.data.toList.take i)) (s.size : Int) (i : Int) = some (code s)
  | d, i, 0, _, h => by omega
  | 0, i, k + 1, hi, _ => by
    unfold rolling_Code.l0
    rw [if_neg (by omega), List.take_of_length_le (by simp; omega)]; rfl
  | d + 1, i, k + 1, hi, hk => by
    have hc := Kl.codeL_range (s.data.toList.take i)
    have hb := bt_range s (i : Int)
    unfold rolling_Code.l0
    rw [if_pos (by omega), mul_ev (by decide) (by decide) hc.1 hc.2, Option.bind_some, if_pos (by omega), if_pos (by omega)]
    have hr := mod_range (257 * codeL (s.data.toList.take i))
    rw [w64 (n := bt s (i : Int)) (by omega) (by omega), w64 (n := bt s (i : Int) + 1) (by omega) (by omega), add_ev hr.1 (by omega) (by have hp := prime_eq; omega), Option.bind_some, w64 (by omega) (by omega)]
    have e : ((257 * codeL (s.data.toList.take i)) % prime + (bt s (i : Int) + 1)) % prime = codeL (s.data.toList.take (i + 1)) := by
      rw [List.take_succ_eq_append_getElem (by simp; omega), Kl.codeL_snoc, bt_nat (by omega)]
    rw [e]
    exact code_l s hs d (i + 1) k (by omega) (by omega)
theorem code_ev {s : ByteArray} (hs : s.size ≤ 4611686018427387904) {k : Nat} (hk : s.size < k) : rolling_Code.f k s = some (code s) := code_l s hs s.size 0 k (by omega) hk

theorem push_ev {s : ByteArray} (hs : s.size ≤ 4611686018427387904) {k : Nat} (hk : s.size < k) {h : Int} (h0 : 0 ≤ h) (h1 : h < prime) : rolling_push.f k h s = some (push h s) := by
  have hc := Kl.code_range s
  have r1 := mod_range (1000003 * h)
  have r2 := mod_range (code s + 1)
  have hp := prime_eq
  unfold rolling_push.f
  rw [mul_ev (by decide) (by decide) h0 h1, Option.bind_some, code_ev hs hk, Option.bind_some, add_ev hc.1 (by decide) (by omega), Option.bind_some, add_ev r1.1 r2.1 (by omega), Option.bind_some]
  rfl

abbrev Lx := S35
theorem rd_lx {l : List Lx} {i : Nat} (hi : i < l.length) : rd_T35 l (i : Int) = l[i] := by
  unfold rd_T35
  rw [Int.toNat_natCast, List.getD_eq_getElem?_getD, List.getElem?_eq_getElem hi]; rfl
theorem rd_txt {l : List Lx} {i : Nat} (hi : i < l.length) : (rd_T35 l (i : Int)).f0 = (txt l).getD i ByteArray.empty := by
  rw [rd_lx hi, List.getD_eq_getElem?_getD]
  unfold txt
  rw [List.getElem?_map, List.getElem?_eq_getElem hi]; rfl
theorem txt_take (l : List Lx) (n : Nat) : txt (l.take n) = (txt l).take n := by unfold txt; rw [List.map_take]
theorem txt_drop (l : List Lx) (n : Nat) : txt (l.drop n) = (txt l).drop n := by unfold txt; rw [List.map_drop]

/-- the words' bytes are at most B -/
def Small (B : Nat) (l : List Lx) : Prop := B ≤ 4611686018427387904 ∧ ∀ x, x ∈ l → x.f0.size ≤ B

theorem hash_l {B : Nat} (l : List Lx) (hB : Small B l) (hl : l.length ≤ 1000000) : ∀ d i k, i + d = l.length → d + B < k → rolling_Hash.l0 k (hashL (txt (l.take i))) l (l.length : Int) (i : Int) = some (hashL (txt l))
  | d, i, 0, _, h => by omega
  | 0, i, k + 1, hi, _ => by
    unfold rolling_Hash.l0
    rw [if_neg (by omega), List.take_of_length_le (by omega)]
  | d + 1, i, k + 1, hi, hk => by
    have hh := Kl.hashL_range (txt (l.take i))
    unfold rolling_Hash.l0
    rw [if_pos (by omega), if_pos (by omega), if_pos (by omega), rd_lx (by omega)]
    have hx := hB.2 l[i] (List.getElem_mem _)
    rw [push_ev (Nat.le_trans hx hB.1) (by omega) hh.1 hh.2, Option.bind_some, w64 (by omega) (by omega)]
    have e : push (hashL (txt (l.take i))) l[i].f0 = hashL (txt (l.take (i + 1))) := by
      rw [List.take_succ_eq_append_getElem (by omega)]
      unfold txt
      rw [List.map_append]
      exact (Kl.hashL_snoc _ _).symm
    rw [e]
    exact hash_l l hB hl d (i + 1) k (by omega) (by omega)
theorem hash_ev {B : Nat} {l : List Lx} (hB : Small B l) (hl : l.length ≤ 1000000) {k : Nat} (hk : l.length + B < k) : rolling_Hash.f k l = some (hashL (txt l)) := hash_l l hB hl l.length 0 k (by omega) hk

theorem power_l : ∀ (k n : Nat) (o s : Int), n < k → n ≤ 1000000 → 0 ≤ o → o < prime → 0 ≤ s → s < prime → rolling_power.l0 k (n : Int) o s = some ((o * s ^ n) % prime)
  | 0, n, o, s, h, _, _, _, _, _ => by omega
  | k + 1, n, o, s, hk, hn, ho, ho1, hs, hs1 => by
    unfold rolling_power.l0
    rcases Nat.eq_zero_or_pos n with rfl | hp
    · rw [if_neg (by omega), Int.pow_zero, Int.mul_one, Int.emod_eq_of_lt ho ho1]
    · have hq : ((n : Int).tdiv 2) = ((n / 2 : Nat) : Int) := by rw [Int.ofNat_tdiv]; rfl
      have r2 := mod_range (s * s)
      rw [if_pos (by omega), hq, w64 (by omega) (by omega)]
      have hm : (n : Int).tmod 2 = ((n % 2 : Nat) : Int) := by rw [Int.ofNat_tmod]; rfl
      rw [hm]
      rcases Nat.mod_two_eq_zero_or_one n with g | g
      · rw [g, if_neg (by decide), mul_ev hs hs1 hs hs1, Option.bind_some, power_l k (n / 2) _ _ (by omega) (by omega) ho ho1 r2.1 r2.2, Kl.pow_even, show 2 * (n / 2) = n by omega]
      · have r1 := mod_range (o * s)
        rw [g, if_pos (by decide), mul_ev ho ho1 hs hs1, Option.bind_some, mul_ev hs hs1 hs hs1, Option.bind_some, power_l k (n / 2) _ _ (by omega) (by omega) r1.1 r1.2 r2.1 r2.2, Kl.pow_odd, show 2 * (n / 2) + 1 = n by omega]
theorem power_ev {n k : Nat} (hn : n ≤ 1000000) (hk : n < k) : rolling_power.f k (n : Int) = some (powS n) := by
  unfold rolling_power.f powS
  rw [power_l k n 1 1000003 hk hn (by decide) (by decide) (by decide) (by decide), Int.one_mul]

theorem roll_ev {h top : Int} {a b : ByteArray} (h0 : 0 ≤ h) (h1 : h < prime) (t0 : 0 ≤ top) (t1 : top < prime) (ha : a.size ≤ 4611686018427387904) (hb : b.size ≤ 4611686018427387904) {k : Nat} (ka : a.size < k) (kb : b.size < k) :
    rolling_roll.f k h a b top = some (rollS h a b top) := by
  have hc := Kl.code_range a
  have hp := prime_eq
  have r1 := mod_range (code a + 1)
  have r2 := mod_range ((code a + 1) % prime * top)
  unfold rolling_roll.f
  rw [code_ev ha ka, Option.bind_some, add_ev hc.1 (by decide) (by omega), Option.bind_some, mul_ev r1.1 r1.2 t0 t1, Option.bind_some, w64 (by omega) (by omega), add_ev h0 (by omega) (by omega), Option.bind_some]
  have r3 := mod_range (h + (2305843009213693951 - (code a + 1) % prime * top % prime))
  rw [push_ev hb kb r3.1 r3.2, Option.bind_some]
  rfl

theorem rd_int {l : List Int} {i : Nat} : rd l (i : Int) = l.getD i 0 := by unfold rd; rw [Int.toNat_natCast]

theorem grams_l {B kk : Nat} (l : List Lx) (hB : Small B l) (hl : l.length ≤ 8192) (hk0 : 0 < kk) (hkl : kk ≤ l.length) : ∀ d i k, i + d + kk = l.length → d + B < k →
    rolling_Grams.l0 k l ((List.range (i + 1)).map fun j => hashL (((txt l).drop j).take kk)) (powS (kk - 1)) (l.drop kk) ((l.drop kk).length : Int) (i : Int) = some (gramsW kk (txt l), 0)
  | d, i, 0, _, h => by omega
  | 0, i, k + 1, hi, _ => by
    unfold rolling_Grams.l0
    have hlen : (l.drop kk).length = l.length - kk := by simp
    rw [if_neg (by omega)]
    congr 2
    unfold gramsW Kl.grams
    rw [if_neg (by rw [txt_length]; omega), txt_length]
    congr 2
    omega
  | d + 1, i, k + 1, hi, hk => by
    have hlen : (l.drop kk).length = l.length - kk := by simp
    unfold rolling_Grams.l0
    have hp := Kl.powS_range (kk - 1)
    rw [if_pos (by omega), if_pos (by omega), if_pos (by omega), if_pos (by simp; omega), if_pos (by omega)]
    have hW : (txt l).length = l.length := txt_length l
    have e0 : rd ((List.range (i + 1)).map fun j => hashL (((txt l).drop j).take kk)) (i : Int) = hashL (((txt l).drop i).take kk) := by
      rw [rd_int, List.getD_eq_getElem?_getD, List.getElem?_map, List.getElem?_range (by omega)]; rfl
    have e1 : (rd_T35 (l.drop kk) (i : Int)).f0 = (txt l).getD (i + kk) ByteArray.empty := by
      rw [rd_txt (by omega), txt_drop]
      simp only [List.getD_eq_getElem?_getD, List.getElem?_drop]
      rw [Nat.add_comm]
    have hh := Kl.hashL_range (((txt l).drop i).take kk)
    have s1 : ((txt l).getD i ByteArray.empty).size ≤ B := by
      rw [← rd_txt (by omega), rd_lx (by omega)]; exact hB.2 _ (List.getElem_mem _)
    have s2 : ((txt l).getD (i + kk) ByteArray.empty).size ≤ B := by
      rw [← rd_txt (l := l) (by omega), rd_lx (by omega)]; exact hB.2 _ (List.getElem_mem _)
    rw [e0, e1, rd_txt (by omega), roll_ev hh.1 hh.2 hp.1 hp.2 (Nat.le_trans s1 hB.1) (Nat.le_trans s2 hB.1) (by omega) (by omega), Option.bind_some, if_pos (by simp; omega), w64 (by omega) (by omega),
      Kl.roll_next (by rw [hW]; omega) hk0, ← Kl.grams_snoc (W := txt l) (k := kk) (i := i) (by rw [hW]; omega)]
    exact grams_l l hB hl hk0 hkl d (i + 1) k (by omega) (by omega)

theorem grams_ev {B kk : Nat} {l : List Lx} (hB : Small B l) (hl : l.length ≤ 8192) (hk0 : 0 < kk) (hk1 : kk ≤ 8192) : rolling_Grams.f (l.length + B + 8200) l (kk : Int) = some (gramsW kk (txt l), 0) := by
  unfold rolling_Grams.f
  rw [if_neg (by omega), show decide ((kk : Int) > 8192) = false by simp; omega]
  obtain ⟨m, hm⟩ : ∃ m, l.length + B + 8200 = m + 1 := ⟨l.length + B + 8199, rfl⟩
  rw [hm]
  rw [rolling_Grams.j0, if_neg (by decide), if_neg (by omega)]
  by_cases h : l.length < kk
  · rw [if_pos (by omega)]
    unfold gramsW
    rw [Kl.grams_short _ (by rw [txt_length]; omega)]
  · rw [if_neg (by omega), if_pos (by omega), if_pos (by omega), Int.toNat_natCast]
    have hB' : Small B (l.take kk) := ⟨hB.1, fun x hx => hB.2 x (List.mem_of_mem_take hx)⟩
    rw [hash_ev hB' (by simp; omega) (by simp; omega), Option.bind_some, w64 (by omega) (by omega), show ((kk : Int) - 1) = ((kk - 1 : Nat) : Int) by omega, power_ev (by omega) (by omega), Option.bind_some, Option.bind_some]
    have := grams_l l hB hl hk0 (by omega) (l.length - kk) 0 m (by omega) (by omega)
    rw [← this, txt_take]
    rfl
end Go.Proofs.YtbakoigejihnaaaGreatDoor.Ref
end
section
set_option linter.unusedVariables false
set_option linter.unusedSimpArgs false
namespace Go.Proofs.YtbakoigejihnaaaGreatDoor.Ref
open Go.RowKit Go.Proofs.YtbakoigejihnaaaGreatDoorW.PrintWords Go.Proofs.YtbakoigejihnaaaGreatDoorW.PrintLast Go.Proofs.YtbakoigejihnaaaGreatDoorW.PrintMore
open Kl (pops qstep sel select stay)

def ints (l : List Nat) : List Int := l.map fun n => ((n : Nat) : Int)
theorem ints_length (l : List Nat) : (ints l).length = l.length := by simp [ints]
theorem ints_snoc (a : List Nat) (x : Nat) : ints (a ++ [x]) = ints a ++ [(x : Int)] := by simp [ints]
theorem rd_ints {l : List Nat} {i : Nat} (hi : i < l.length) : rd (ints l) (i : Int) = ((l[i] : Nat) : Int) := by
  rw [rd_int, List.getD_eq_getElem?_getD]
  unfold ints
  rw [List.getElem?_map, List.getElem?_eq_getElem hi]; rfl

theorem pop_l (l : List Int) (w : Int) (out : List Int) (i : Nat) (hi : i < l.length) (hn : l.length ≤ 8192) : ∀ (r : List Nat) (m : Nat), (∀ j, j ∈ r → j < l.length) → r.length ≤ l.length →
    ∃ m', m ≤ m' ∧ winnow_Select.l1 (r.length + 1 + m) l w out (ints r.reverse) (i : Int) (l.length : Int) (i : Int) = winnow_Select.j2 m' l w out (ints (pops l (l.getD i 0) r.reverse)) (i : Int) (l.length : Int) (i : Int)
  | [], m, _, _ => by
    refine ⟨m, Nat.le_refl _, ?_⟩
    rw [show ([] : List Nat).length + 1 + m = m + 1 by simp; omega, winnow_Select.l1, if_neg (by simp [ints])]
    rfl
  | j :: r, m, hj, hr => by
    have hjn := hj j (by simp)
    simp only [List.length_cons] at hr
    have hlen : (ints (j :: r).reverse).length = r.length + 1 := by rw [ints_length]; simp
    have hlast : rd (ints (j :: r).reverse) ((r.length : Nat) : Int) = (j : Int) := by
      rw [rd_ints (by simp)]
      congr 1
      simp
    rw [show (j :: r).length + 1 + m = (r.length + 1 + m) + 1 by simp; omega, winnow_Select.l1, hlen]
    have e1 : wrap64 (((r.length + 1 : Nat) : Int) - 1) = ((r.length : Nat) : Int) := by rw [w64 (by omega) (by omega)]; omega
    rw [e1, hlast, if_pos (by omega), if_pos (by omega), if_pos (by omega), if_pos (by omega), if_pos (by omega), if_pos (by omega), if_pos (by omega), rd_int, rd_int]
    by_cases g : l.getD i 0 ≤ l.getD j 0
    · rw [if_pos g, if_pos (by omega), Int.toNat_natCast]
      have e2 : (ints (j :: r).reverse).take r.length = ints r.reverse := by
        unfold ints
        rw [← List.map_take, List.reverse_cons, List.take_left' (by simp)]
      obtain ⟨m', h1, h2⟩ := pop_l l w out i hi hn r m (fun x hx => hj x (List.mem_cons_of_mem _ hx)) (by omega)
      refine ⟨m', h1, ?_⟩
      rw [e2, h2, List.reverse_cons, Kl.pops_last g]
    · rw [if_neg g]
      refine ⟨r.length + 1 + m, by omega, ?_⟩
      rw [List.reverse_cons, Kl.pops_stay g]

/-- what one place adds to the selected ones -/
def outStep (w i : Nat) (out st : List Nat) : List Nat := if w ≤ i + 1 ∧ out.getLast? ≠ some (st.headD 0) then out ++ [st.headD 0] else out

theorem last_l {out : List Nat} (ho : out.length ≤ 8192) (hne : out ≠ []) : rd (ints out) (wrap64 (((ints out).length : Int) - 1)) = (((out.getLast?).getD 0 : Nat) : Int) ∧ 0 ≤ wrap64 (((ints out).length : Int) - 1) ∧ wrap64 (((ints out).length : Int) - 1) < ((ints out).length : Int) := by
  have hpos : 0 < out.length := List.length_pos_iff.2 hne
  have hlo : (ints out).length = out.length := ints_length _
  have e : wrap64 (((ints out).length : Int) - 1) = ((out.length - 1 : Nat) : Int) := by rw [hlo, w64 (by omega) (by omega)]; omega
  rw [e]
  refine ⟨?_, by omega, by omega⟩
  rw [rd_ints (by omega), List.getLast?_eq_getElem?, List.getElem?_eq_getElem (by omega)]; rfl

theorem head_l {st : List Nat} (hst : 0 < st.length) : rd (ints st) 0 = ((st.headD 0 : Nat) : Int) := by
  have := rd_ints (l := st) (i := 0) hst
  rw [show ((0 : Nat) : Int) = 0 from rfl] at this
  rw [this]
  cases st with
  | nil => simp at hst
  | cons a t => rfl

/-- the end of a round, whatever is done then -/
theorem rest_l {β : Type} (F : List Int → List Int → Int → Option β) (w i : Nat) (hw1 : w ≤ 1024) (hi : i ≤ 8192) (out st : List Nat) (ho : out.length ≤ 8192) (hst : 0 < st.length) :
    (if (i : Int) ≥ wrap64 ((w : Int) - 1) then (if ((ints out).length : Int) = 0 then (if 0 < ((ints st).length : Int) then (if (ints out).length < 17592186044416 then F (ints out ++ [rd (ints st) 0]) (ints st) (wrap64 ((i : Int) + 1)) else none) else none) else (if 0 ≤ (wrap64 (((ints out).length : Int) - 1)) then (if (wrap64 (((ints out).length : Int) - 1)) < ((ints out).length : Int) then (if 0 < ((ints st).length : Int) then (if (rd (ints out) (wrap64 (((ints out).length : Int) - 1))) = (rd (ints st) 0) then F (ints out) (ints st) (wrap64 ((i : Int) + 1)) else (if (ints out).length < 17592186044416 then F (ints out ++ [rd (ints st) 0]) (ints st) (wrap64 ((i : Int) + 1)) else none)) else none) else none) else none)) else F (ints out) (ints st) (wrap64 ((i : Int) + 1))) =
      F (ints (outStep w i out st)) (ints st) ((i + 1 : Nat) : Int) := by
  have hls : (ints st).length = st.length := ints_length _
  have hlo : (ints out).length = out.length := ints_length _
  have ew1 : wrap64 ((w : Int) - 1) = (w : Int) - 1 := w64 (by omega) (by omega)
  have ei : wrap64 ((i : Int) + 1) = ((i + 1 : Nat) : Int) := by rw [w64 (by omega) (by omega)]; omega
  rw [ew1, ei, head_l hst]
  unfold outStep
  by_cases g : w ≤ i + 1
  · rw [if_pos (show (i : Int) ≥ (w : Int) - 1 by omega)]
    by_cases hz : out = []
    · subst hz
      rw [if_pos (show (((ints ([] : List Nat)).length : Nat) : Int) = 0 from rfl), if_pos (show 0 < (((ints st).length : Nat) : Int) by omega), if_pos (show (ints ([] : List Nat)).length < 17592186044416 by rw [ints_length]; simp), if_pos ⟨g, by simp⟩, ints_snoc]
    · obtain ⟨e1, e2, e3⟩ := last_l ho hz
      have hpos : 0 < out.length := List.length_pos_iff.2 hz
      rw [if_neg (show ¬ (((ints out).length : Nat) : Int) = 0 by omega), if_pos e2, if_pos e3, if_pos (show 0 < (((ints st).length : Nat) : Int) by omega), e1]
      obtain ⟨y, hy⟩ : ∃ y, out.getLast? = some y := by
        rw [List.getLast?_eq_getElem?, List.getElem?_eq_getElem (by omega)]; exact ⟨_, rfl⟩
      rw [hy, Option.getD_some]
      by_cases q : y = st.headD 0
      · rw [if_pos (show (y : Int) = ((st.headD 0 : Nat) : Int) by rw [q]), if_neg (by rintro ⟨_, h⟩; exact h (by rw [q]))]
      · rw [if_neg (show ¬ (y : Int) = ((st.headD 0 : Nat) : Int) by intro h; exact q (by omega)), if_pos (show (ints out).length < 17592186044416 by omega), if_pos ⟨g, by intro h; exact q (by injection h)⟩, ints_snoc]
  · rw [if_neg (show ¬ (i : Int) ≥ (w : Int) - 1 by omega), if_neg (by rintro ⟨h, _⟩; exact g h)]

theorem tail_l (l : List Int) (w : Nat) (hw : 0 < w) (hw1 : w ≤ 1024) (i : Nat) (hi : i < l.length) (hn : l.length ≤ 8192) (out s0 : List Nat) (ho : out.length ≤ 8192) (hs : s0.length ≤ 8192) (k : Nat) :
    winnow_Select.j2 (k + 1) l (w : Int) (ints out) (ints s0) (i : Int) (l.length : Int) (i : Int) =
      winnow_Select.l0 k l (w : Int) (ints (outStep w i out (if (s0 ++ [i]).headD 0 + w ≤ i then (s0 ++ [i]).tail else s0 ++ [i]))) (ints (if (s0 ++ [i]).headD 0 + w ≤ i then (s0 ++ [i]).tail else s0 ++ [i])) (l.length : Int) ((i + 1 : Nat) : Int) := by
  have hl0 : (ints s0).length = s0.length := ints_length _
  have es : ints s0 ++ [(i : Int)] = ints (s0 ++ [i]) := (ints_snoc _ _).symm
  have hhead : rd (ints (s0 ++ [i])) 0 = (((s0 ++ [i]).headD 0 : Nat) : Int) := head_l (by simp)
  have hlen : (ints (s0 ++ [i])).length = s0.length + 1 := by rw [ints_length]; simp
  have ew : wrap64 ((i : Int) - (w : Int)) = (i : Int) - (w : Int) := w64 (by omega) (by omega)
  have e1 : (ints (s0 ++ [i])).drop (1 : Int).toNat = ints (s0 ++ [i]).tail := by
    unfold ints
    rw [← List.map_drop]
    congr 1
    cases (s0 ++ [i]) <;> rfl
  rw [winnow_Select.j2]
  have R := rest_l (fun a b c => winnow_Select.l0 k l (w : Int) a b (l.length : Int) c) w i hw1 (by omega) out
  generalize winnow_Select.l0 k l (w : Int) = F at R ⊢
  rw [if_pos (show (ints s0).length < 17592186044416 by omega), Option.bind_some, es, if_pos (show 0 < (((ints (s0 ++ [i])).length : Nat) : Int) by omega), ew]
  by_cases hd : (s0 ++ [i]).headD 0 + w ≤ i
  · have hne : s0 ≠ [] := by rintro rfl; simp at hd; omega
    rw [if_pos (show rd (ints (s0 ++ [i])) 0 ≤ (i : Int) - (w : Int) by rw [hhead]; omega), if_pos hd, if_pos (show 1 ≤ (((ints (s0 ++ [i])).length : Nat) : Int) by omega), Option.bind_some, e1]
    exact R _ ho (by simp; exact List.length_pos_iff.2 hne)
  · rw [if_neg (show ¬ rd (ints (s0 ++ [i])) 0 ≤ (i : Int) - (w : Int) by rw [hhead]; omega), if_neg hd]
    have := R (s0 ++ [i]) ho (by simp)
    rw [if_pos (show 0 < (((ints (s0 ++ [i])).length : Nat) : Int) by omega), if_pos (show 0 < (((ints (s0 ++ [i])).length : Nat) : Int) by omega)] at this
    exact this

theorem sel_succ (l : List Int) (w i : Nat) : sel l w (i + 1) = (outStep w i (sel l w i).1 (qstep l w i (sel l w i).2), qstep l w i (sel l w i).2) := rfl

theorem queue_small (l : List Int) {w : Nat} (hw : 0 < w) : ∀ i, (sel l w i).2.length ≤ i ∧ ∀ j, j ∈ (sel l w i).2 → j < i
  | 0 => by simp [sel]
  | i + 1 => by
    rw [Kl.sel_queue l hw i]
    refine ⟨?_, fun j hj => ?_⟩
    · unfold stay
      have := List.length_filter_le (fun j => decide (i < j + w) && (List.range (i + 1)).all fun j' => decide (j < j' → l.getD j 0 < l.getD j' 0)) (List.range (i + 1))
      simpa using this
    · have := (Kl.mem_stay.1 hj).1; omega
theorem out_small (l : List Int) {w : Nat} (hw : 0 < w) (i : Nat) : (sel l w i).1.length ≤ i ∧ ∀ j, j ∈ (sel l w i).1 → j < i := by
  have h := Kl.sel_ok l hw i
  refine ⟨?_, h.lt⟩
  have h2 : (sel l w i).1.Nodup := h.rising.imp fun h => Nat.ne_of_lt h
  have h3 := List.Nodup.length_le_of_subset h2 (l₂ := List.range i) (fun m hm => by have := h.lt m hm; simpa using this)
  simpa using h3

theorem select_l (l : List Int) (w : Nat) (hw : 0 < w) (hw1 : w ≤ 1024) (hn : l.length ≤ 8192) : ∀ d i k, i + d = l.length → d * (l.length + 5) < k → winnow_Select.l0 k l (w : Int) (ints (sel l w i).1) (ints (sel l w i).2) (l.length : Int) (i : Int) = some (ints (select l w), 0)
  | d, i, 0, _, h => by omega
  | 0, i, k + 1, hi, _ => by
    rw [winnow_Select.l0, if_neg (by omega), show i = l.length by omega]; rfl
  | d + 1, i, k + 1, hi, hk => by
    have hq := queue_small l hw i
    have ho := out_small l hw i
    rw [Nat.add_mul, Nat.one_mul] at hk
    rw [winnow_Select.l0, if_pos (by omega)]
    obtain ⟨m, hm⟩ : ∃ m, k = (sel l w i).2.reverse.length + 1 + m := ⟨k - ((sel l w i).2.reverse.length + 1), by simp; omega⟩
    obtain ⟨m', h1, h2⟩ := pop_l l (w : Int) (ints (sel l w i).1) i (by omega) hn (sel l w i).2.reverse m (fun j hj => by have := hq.2 j (by simpa using hj); omega) (by simp; omega)
    rw [← hm, List.reverse_reverse] at h2
    rw [h2]
    obtain ⟨m2, rfl⟩ : ∃ m2, m' = m2 + 1 := ⟨m' - 1, by simp at hm; omega⟩
    have hp : ∀ j, j ∈ pops l (l.getD i 0) (sel l w i).2 → j ∈ (sel l w i).2 := by
      intro j hj
      unfold pops at hj
      have := List.dropWhile_subset _ (List.mem_reverse.1 hj)
      simpa using this
    have hpl : (pops l (l.getD i 0) (sel l w i).2).length ≤ (sel l w i).2.length := by
      unfold pops
      have := (List.dropWhile_sublist (fun j => decide (l.getD i 0 ≤ l.getD j 0)) (l := (sel l w i).2.reverse)).length_le
      simpa using this
    rw [tail_l l w hw hw1 i (by omega) hn (sel l w i).1 (pops l (l.getD i 0) (sel l w i).2) (by omega) (by omega) m2]
    have := select_l l w hw hw1 hn d (i + 1) m2 (by omega) (by simp at hm; omega)
    rw [sel_succ] at this
    exact this

theorem select_ev {l : List Int} {w : Nat} (hw : 0 < w) (hw1 : w ≤ 1024) (hn : l.length ≤ 8192) : winnow_Select.f (l.length * (l.length + 5) + 1) l (w : Int) = some (ints (select l w), 0) := by
  unfold winnow_Select.f winnow_size.f
  rw [if_pos (by omega), Option.bind_some, if_pos (by simp; omega), if_neg (by omega)]
  exact select_l l w hw hw1 hn l.length 0 _ (by omega) (by omega)
end Go.Proofs.YtbakoigejihnaaaGreatDoor.Ref
end
