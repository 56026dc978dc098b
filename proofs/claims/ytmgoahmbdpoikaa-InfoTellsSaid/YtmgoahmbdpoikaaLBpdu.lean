/- The law BpduTells. -/
import Derived.Test.YtmgoahmbdpoikaaBpdu5
import Derived.Test.YtmgoahmbdpoikaaOpa
set_option linter.unusedVariables false
set_option linter.unusedSimpArgs false
set_option maxRecDepth 100000
set_option maxHeartbeats 4000000
namespace Go.Proofs.Ytmgoahmbdpoikaa.Am
open Go Go.RowKit
theorem nat_bit (n k : Nat) : n &&& 2 ^ k = 2 ^ k * (n / 2 ^ k % 2) := by
  apply Nat.eq_of_testBit_eq
  intro i
  rw [Nat.testBit_and, Nat.testBit_two_pow]
  rcases (show n / 2 ^ k % 2 = 0 ∨ n / 2 ^ k % 2 = 1 by omega) with e | e
  · rw [e, Nat.mul_zero, Nat.zero_testBit]
    by_cases h : k = i
    · subst h; rw [Nat.testBit_eq_decide_div_mod_eq, e]; rfl
    · simp [h]
  · rw [e, Nat.mul_one, Nat.testBit_two_pow]
    by_cases h : k = i
    · subst h; rw [Nat.testBit_eq_decide_div_mod_eq, e]; rfl
    · simp [h]
theorem andi (x : Int) (c : Nat) (hc : c < 4611686018427387904) : bits .and .i64 x c = (((x % 18446744073709551616).toNat &&& c : Nat) : Int) := by
  show IntKind.i64.wrap ((BitVec.ofInt 64 x &&& BitVec.ofInt 64 (c : Int)).toNat : Int) = _
  rw [BitVec.toNat_and, BitVec.toNat_ofInt, BitVec.ofInt_natCast, BitVec.toNat_ofNat, Nat.mod_eq_of_lt (by omega)]
  have h : (x % ((2 ^ 64 : Nat) : Int)).toNat &&& c ≤ c := Nat.and_le_right
  rw [w64 (by omega) (by omega)]
  rfl
theorem roleV_eq (f : Int) : roleV f = f / 4 % 4 := by
  unfold roleV
  rw [show (3 : Int) = ((3 : Nat) : Int) from rfl, andi _ 3 (by decide), show (3 : Nat) = 2 ^ 2 - 1 from rfl, Nat.and_two_pow_sub_one_eq_mod, Int.fdiv_eq_ediv_of_nonneg _ (by decide)]
  omega
theorem bit4 (f : Int) : bits .and .i64 f 4 = 4 * (f / 4 % 2) := by
  rw [show (4 : Int) = ((4 : Nat) : Int) from rfl, andi _ 4 (by decide), show (4 : Nat) = 2 ^ 2 from rfl, nat_bit]
  omega
theorem bit8 (f : Int) : bits .and .i64 f 8 = 8 * (f / 8 % 2) := by
  rw [show (8 : Int) = ((8 : Nat) : Int) from rfl, andi _ 8 (by decide), show (8 : Nat) = 2 ^ 3 from rfl, nat_bit]
  omega
/-! ### Awake -/
def b3 : BpduV := ⟨3, 60, 1, 2, 3, 4, 0, 5120, 512, 3840⟩
theorem b3_right : bRightV b3 = true := by decide
theorem b3_ok : okB b3 := by unfold okB b3; decide
def t3 : ByteArray := mkS (flat b3 2 ++ [0])
theorem t3_size : t3.size = 36 := by unfold t3; rw [mkS_size]; rfl
theorem t3_print : bPrintV b3 = (t3, 0) := by
  unfold bPrintV t3
  rw [if_neg (by decide), if_neg (by decide), if_pos (by decide), flat_eq b3_right (by decide), show b3.Kind - 1 = 2 from by decide]
theorem t3_parse : parseV (t3 ++ ⟨#[109, 111, 114, 101]⟩) = (b3, 0) := by
  obtain ⟨h0, h1, h2, h3⟩ := flat_back b3_right (by decide) b3_ok [0] ⟨#[109, 111, 114, 101]⟩
  have hs : (t3 ++ ⟨#[109, 111, 114, 101]⟩ : ByteArray).size = 40 := by rw [ByteArray.size_append, t3_size]; rfl
  have e : mkS (flat b3 (b3.Kind - 1) ++ [0]) = t3 := by unfold t3; rw [show b3.Kind - 1 = 2 from by decide]
  rw [e] at h0 h1 h2 h3
  rw [show b3.Kind = 3 from rfl] at h2 h3
  revert h0 h1 h2 h3 hs
  generalize (t3 ++ ⟨#[109, 111, 114, 101]⟩ : ByteArray) = s
  intro h0 h1 h2 h3 hs
  unfold parseV
  rw [h0, h1, h2, hs, if_neg (by decide), if_neg (by decide), if_neg (by decide), if_neg (by decide), if_neg (by decide), if_neg (by omega), h3]
theorem t7_parse : parseV ⟨#[0, 0, 0, 7]⟩ = (BpduV.zero, 9) := by
  unfold parseV
  rw [if_neg (by decide), if_neg (by decide), if_pos (by decide)]
theorem role60_w (w : World) : PuAt Try.prog 20 [.int .i64 60] (.int .i64 3) w := bRole_w 60 w
theorem right3_w (w : World) : PuAt Try.prog 19 [.agg ⟨b3.enc⟩] (.bool true) w := by
  have h := bRight_w b3 w
  rw [b3_right] at h
  exact h
theorem t3_more {t : ByteArray} (h : t.size = 36) : t.size + (⟨#[109, 111, 114, 101]⟩ : ByteArray).size ≤ 9223372036854775807 := by rw [h]; decide
/-! ### The law -/
end Go.Proofs.Ytmgoahmbdpoikaa.Am
