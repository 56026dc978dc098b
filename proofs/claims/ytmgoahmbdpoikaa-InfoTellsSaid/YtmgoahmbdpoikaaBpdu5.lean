/- What is printed is heard. -/
import Derived.Test.YtmgoahmbdpoikaaBpdu4
set_option linter.unusedVariables false
set_option linter.unusedSimpArgs false
set_option maxRecDepth 100000
set_option maxHeartbeats 4000000
namespace Go.Proofs.Ytmgoahmbdpoikaa.Am
open Go Go.RowKit
theorem mkS_list (l : List Int) : (mkS l).data.toList = l.map fun n => UInt8.ofNat n.toNat := by simp [mkS]
theorem byteAt_get (s : ByteArray) (i : Nat) (h : i < s.size) : byteAt s i = ((s.data.toList[i]'(by simpa using h)).toNat : Int) := by
  rw [← byteAt_eq s i h]; rfl
theorem u8of (n : Int) (h0 : 0 ≤ n) (h1 : n < 256) : ((UInt8.ofNat n.toNat).toNat : Int) = n := by
  rw [UInt8.toNat_ofNat']
  omega
theorem byteAt_cat (L : List Int) (m : ByteArray) (i : Nat) (h : i < L.length) (h0 : 0 ≤ L[i] ∧ L[i] < 256) : byteAt (mkS L ++ m) i = L[i] := by
  rw [byteAt_get _ _ (by rw [ByteArray.size_append, mkS_size]; omega)]
  have e : (mkS L ++ m).data.toList = (L.map fun n => UInt8.ofNat n.toNat) ++ m.data.toList := by simp [mkS_list]
  simp only [e]
  rw [List.getElem_append_left (by simpa using h), List.getElem_map, u8of _ h0.1 h0.2]
theorem digs_get (v : Int) (n k : Nat) (h : k < (digs v n).length) : (digs v n)[k] = v / 256 ^ (n - 1 - k) % 256 := by
  induction n generalizing k with
  | zero => simp [digs] at h
  | succ n ih =>
    cases k with
    | zero => simp [digs]
    | succ k =>
      simp only [digs, List.getElem_cons_succ]
      rw [ih k (by simpa [digs] using h)]
      rw [show n - 1 - k = n + 1 - 1 - (k + 1) by omega]
theorem ediv_pow_le (v : Int) (k : Nat) (h : 0 ≤ v) : 0 ≤ v / 256 ^ k ∧ v / 256 ^ k ≤ v :=
  ⟨Int.ediv_nonneg h (Int.pow_nonneg (by decide)), Int.ediv_le_self _ h⟩
theorem getV_digs (s : ByteArray) (a n : Nat) (v : Int) (h0 : 0 ≤ v) (h1 : v < 256 ^ n) (h2 : v < 18446744073709551616) (hl : a + n ≤ s.size)
    (hs : ∀ k, k < n → byteAt s (a + k) = v / 256 ^ (n - 1 - k) % 256) : getV s a n = v := by
  have key : ∀ k, k ≤ n → getV s a k = v / 256 ^ (n - k) := by
    intro k
    induction k with
    | zero =>
      intro _
      rw [Nat.sub_zero, Int.ediv_eq_zero_of_lt h0 h1]
      simp [getV, beF]
    | succ k ih =>
      intro hk
      rw [getV_snoc s a k (by omega), ih (by omega), hs k (by omega)]
      have e : v / 256 ^ (n - k) = v / 256 ^ (n - 1 - k) / 256 := by
        rw [Int.ediv_ediv_of_nonneg (Int.pow_nonneg (by decide)), ← Int.pow_succ, Nat.succ_eq_add_one, show n - 1 - k + 1 = n - k by omega]
      have := ediv_pow_le v (n - 1 - k) h0
      rw [e, show n - (k + 1) = n - 1 - k by omega]
      omega
  have h := key n (Nat.le_refl _)
  simpa using h
theorem getV_at (L A B : List Int) (v : Int) (a n : Nat) (m : ByteArray) (hL : L = A ++ (digs v n ++ B)) (ha : A.length = a) (h0 : 0 ≤ v) (h1 : v < 256 ^ n) (h2 : v < 18446744073709551616) : getV (mkS L ++ m) a n = v := by
  subst hL ha
  refine getV_digs _ _ _ _ h0 h1 h2 (by rw [ByteArray.size_append, mkS_size]; simp [digs_len]; omega) fun k hk => ?_
  have hlen : A.length + k < (A ++ (digs v n ++ B)).length := by simp [digs_len]; omega
  have e : (A ++ (digs v n ++ B))[A.length + k]'hlen = v / 256 ^ (n - 1 - k) % 256 := by
    rw [List.getElem_append_right (by omega)]
    simp only [Nat.add_sub_cancel_left]
    rw [List.getElem_append_left (by rw [digs_len]; exact hk), digs_get]
  rw [byteAt_cat _ _ _ hlen (by rw [e]; have := Int.emod_nonneg (v / 256 ^ (n - 1 - k)) (show (256 : Int) ≠ 0 by decide); have := Int.emod_lt_of_pos (v / 256 ^ (n - 1 - k)) (show (0 : Int) < 256 by decide); omega), e]
theorem getV_lt (s : ByteArray) (a n : Nat) (hn : n ≤ 8) : getV s a n < 256 ^ n := by
  unfold getV
  generalize s.data.toList.drop a = l
  have key : ∀ (l : List UInt8) (k : Nat), l.length ≤ k → beF 0 l < 256 ^ k := by
    intro l k
    induction k generalizing l with
    | zero =>
      intro h
      rw [List.eq_nil_of_length_eq_zero (Nat.le_zero.mp h)]
      exact (by decide : (0 : Int) < 1)
    | succ k ih =>
      intro hk
      rcases List.eq_nil_or_concat l with rfl | ⟨l', c, rfl⟩
      · exact Int.pow_pos (by decide)
      · rw [List.concat_eq_append] at hk ⊢
        rw [beF_snoc]
        have h := ih l' (by simp at hk; omega)
        have h3 := (beF_range 0 (by omega) l').1
        have hc := c.toNat_lt
        rw [Int.pow_succ]
        generalize (256 : Int) ^ k = q at *
        omega
  exact key _ n (by simp; omega)
/-! ### A right BPDU's own bytes -/
theorem right_num {b : BpduV} (h : bRightV b = true) (h2 : ¬ b.Kind = 2) :
    (b.Kind = 1 ∨ b.Kind = 3) ∧ (0 ≤ b.Flags ∧ b.Flags ≤ 255) ∧ b.Vector_Cost < 4294967296 ∧ b.Vector_Port ≤ 65535 ∧ (0 ≤ b.Age ∧ b.Age ≤ 65535) ∧ (0 ≤ b.Max ∧ b.Max ≤ 65535) ∧ (0 ≤ b.Hello ∧ b.Hello ≤ 65535) ∧ (0 ≤ b.Delay ∧ b.Delay ≤ 65535) := by
  unfold bRightV at h
  rw [if_neg h2] at h
  simp only [in16, Bool.and_eq_true, Bool.or_eq_true, decide_eq_true_eq, Bool.not_eq_true', Bool.or_eq_false_iff, decide_eq_false_iff_not] at h
  omega
def flat (b : BpduV) (k : Int) : List Int := [0, 0, k, k, b.Flags] ++ (digs b.Vector_Root 8 ++ (digs b.Vector_Cost 4 ++ (digs b.Vector_Bridge 8 ++ (digs b.Vector_Port 2 ++ (digs b.Age 2 ++ (digs b.Max 2 ++ (digs b.Hello 2 ++ (digs b.Delay 2 ++ []))))))))
theorem bFlat_len (b : BpduV) (k : Int) : (flat b k).length = 35 := by simp [flat, digs_len]
theorem flat_eq {b : BpduV} (h : bRightV b = true) (h2 : ¬ b.Kind = 2) : bPrintL b = flat b (b.Kind - 1) := by
  have h := right_num h h2
  have e1 : IntKind.u8.wrap (IntKind.i64.wrap (b.Kind - 1)) = b.Kind - 1 := by rcases h.1 with e | e <;> rw [e] <;> decide
  have e2 : IntKind.u8.wrap b.Flags = b.Flags := by rw [wu8']; omega
  simp only [bPrintL, bHead, bTail, e1, e2, num_digs _ 8 (by decide), num_digs _ 4 (by decide), num_digs _ 2 (by decide), wu64 (x := b.Age) (by omega) (by omega), wu64 (x := b.Max) (by omega) (by omega), wu64 (x := b.Hello) (by omega) (by omega), wu64 (x := b.Delay) (by omega) (by omega)]
  simp [flat]
/-- .. with what stands behind them. -/
theorem flat_back {b : BpduV} (h : bRightV b = true) (h2 : ¬ b.Kind = 2) (hb : okB b) (B : List Int) (m : ByteArray) :
    byteAt (mkS (flat b (b.Kind - 1) ++ B) ++ m) 0 = 0 ∧ byteAt (mkS (flat b (b.Kind - 1) ++ B) ++ m) 1 = 0 ∧ kindV (byteAt (mkS (flat b (b.Kind - 1) ++ B) ++ m) 2) (byteAt (mkS (flat b (b.Kind - 1) ++ B) ++ m) 3) = b.Kind ∧ bodyV (mkS (flat b (b.Kind - 1) ++ B) ++ m) b.Kind = b := by
  obtain ⟨hk, hf, hc, hp, ha, hm, hh, hd⟩ := right_num h h2
  obtain ⟨o1, o2, o3, o4⟩ := hb
  have hl : ∀ i, i < 5 → i < (flat b (b.Kind - 1) ++ B).length := by intro i hi; rw [List.length_append, bFlat_len]; omega
  have c : ∀ i (hi : i < 5), (0 ≤ (flat b (b.Kind - 1) ++ B)[i]'(hl i hi) ∧ (flat b (b.Kind - 1) ++ B)[i]'(hl i hi) < 256) → byteAt (mkS (flat b (b.Kind - 1) ++ B) ++ m) i = (flat b (b.Kind - 1) ++ B)[i]'(hl i hi) := fun i hi h => byteAt_cat _ m i (hl i hi) h
  have c0 : byteAt (mkS (flat b (b.Kind - 1) ++ B) ++ m) 0 = 0 := c 0 (by decide) ⟨Int.le_refl _, (by decide : (0 : Int) < 256)⟩
  have c1 : byteAt (mkS (flat b (b.Kind - 1) ++ B) ++ m) 1 = 0 := c 1 (by decide) ⟨Int.le_refl _, (by decide : (0 : Int) < 256)⟩
  have c2 : byteAt (mkS (flat b (b.Kind - 1) ++ B) ++ m) 2 = b.Kind - 1 := c 2 (by decide) (show 0 ≤ b.Kind - 1 ∧ b.Kind - 1 < 256 by omega)
  have c3 : byteAt (mkS (flat b (b.Kind - 1) ++ B) ++ m) 3 = b.Kind - 1 := c 3 (by decide) (show 0 ≤ b.Kind - 1 ∧ b.Kind - 1 < 256 by omega)
  have c4 : byteAt (mkS (flat b (b.Kind - 1) ++ B) ++ m) 4 = b.Flags := c 4 (by decide) (show 0 ≤ b.Flags ∧ b.Flags < 256 by omega)
  refine ⟨c0, c1, ?_, ?_⟩
  · rw [c2, c3]
    rcases hk with e | e <;> rw [e] <;> decide
  · unfold bodyV
    rw [get_one _ (by rw [ByteArray.size_append, mkS_size, List.length_append, bFlat_len]; omega), c4,
      getV_at (flat b (b.Kind - 1) ++ B) [0, 0, b.Kind - 1, b.Kind - 1, b.Flags] (digs b.Vector_Cost 4 ++ (digs b.Vector_Bridge 8 ++ (digs b.Vector_Port 2 ++ (digs b.Age 2 ++ (digs b.Max 2 ++ (digs b.Hello 2 ++ (digs b.Delay 2 ++ B))))))) b.Vector_Root 5 8 m (by simp [flat]) rfl o1.1 (by omega) o1.2,
      getV_at (flat b (b.Kind - 1) ++ B) ([0, 0, b.Kind - 1, b.Kind - 1, b.Flags] ++ digs b.Vector_Root 8) (digs b.Vector_Bridge 8 ++ (digs b.Vector_Port 2 ++ (digs b.Age 2 ++ (digs b.Max 2 ++ (digs b.Hello 2 ++ (digs b.Delay 2 ++ B)))))) b.Vector_Cost 13 4 m (by simp [flat]) rfl o2.1 (by omega) o2.2,
      getV_at (flat b (b.Kind - 1) ++ B) ([0, 0, b.Kind - 1, b.Kind - 1, b.Flags] ++ digs b.Vector_Root 8 ++ digs b.Vector_Cost 4) (digs b.Vector_Port 2 ++ (digs b.Age 2 ++ (digs b.Max 2 ++ (digs b.Hello 2 ++ (digs b.Delay 2 ++ B))))) b.Vector_Bridge 17 8 m (by simp [flat]) rfl o3.1 (by omega) o3.2,
      getV_at (flat b (b.Kind - 1) ++ B) ([0, 0, b.Kind - 1, b.Kind - 1, b.Flags] ++ digs b.Vector_Root 8 ++ digs b.Vector_Cost 4 ++ digs b.Vector_Bridge 8) (digs b.Age 2 ++ (digs b.Max 2 ++ (digs b.Hello 2 ++ (digs b.Delay 2 ++ B)))) b.Vector_Port 25 2 m (by simp [flat]) rfl o4.1 (by omega) o4.2,
      getV_at (flat b (b.Kind - 1) ++ B) ([0, 0, b.Kind - 1, b.Kind - 1, b.Flags] ++ digs b.Vector_Root 8 ++ digs b.Vector_Cost 4 ++ digs b.Vector_Bridge 8 ++ digs b.Vector_Port 2) (digs b.Max 2 ++ (digs b.Hello 2 ++ (digs b.Delay 2 ++ B))) b.Age 27 2 m (by simp [flat]) rfl ha.1 (by omega) (by omega),
      getV_at (flat b (b.Kind - 1) ++ B) ([0, 0, b.Kind - 1, b.Kind - 1, b.Flags] ++ digs b.Vector_Root 8 ++ digs b.Vector_Cost 4 ++ digs b.Vector_Bridge 8 ++ digs b.Vector_Port 2 ++ digs b.Age 2) (digs b.Hello 2 ++ (digs b.Delay 2 ++ B)) b.Max 29 2 m (by simp [flat]) rfl hm.1 (by omega) (by omega),
      getV_at (flat b (b.Kind - 1) ++ B) ([0, 0, b.Kind - 1, b.Kind - 1, b.Flags] ++ digs b.Vector_Root 8 ++ digs b.Vector_Cost 4 ++ digs b.Vector_Bridge 8 ++ digs b.Vector_Port 2 ++ digs b.Age 2 ++ digs b.Max 2) (digs b.Delay 2 ++ B) b.Hello 31 2 m (by simp [flat]) rfl hh.1 (by omega) (by omega),
      getV_at (flat b (b.Kind - 1) ++ B) ([0, 0, b.Kind - 1, b.Kind - 1, b.Flags] ++ digs b.Vector_Root 8 ++ digs b.Vector_Cost 4 ++ digs b.Vector_Bridge 8 ++ digs b.Vector_Port 2 ++ digs b.Age 2 ++ digs b.Max 2 ++ digs b.Hello 2) B b.Delay 33 2 m (by simp [flat]) rfl hd.1 (by omega) (by omega)]
/-- The bytes of a right BPDU. -/
theorem print_right {b : BpduV} (h : bRightV b = true) (h2 : ¬ b.Kind = 2) : ∃ B : List Int, bPrintV b = (mkS (flat b (b.Kind - 1) ++ B), 0) ∧ ((35 + B.length : Nat) : Int) = sizeV b.Kind := by
  have hn := right_num h h2
  unfold bPrintV
  rw [if_neg (by simp [h]), if_neg h2, flat_eq h h2]
  rcases hn.1 with e | e
  · refine ⟨[], ?_, by rw [e]; rfl⟩
    rw [if_neg (by omega), List.append_nil]
  · refine ⟨[0], ?_, by rw [e]; rfl⟩
    rw [if_pos e]
theorem print_two {b : BpduV} (h : bRightV b = true) (h2 : b.Kind = 2) : bPrintV b = (mkS [0, 0, 0, 128], 0) := by
  unfold bPrintV
  rw [if_neg (by simp [h]), if_pos h2]
  rfl
end Go.Proofs.Ytmgoahmbdpoikaa.Am
