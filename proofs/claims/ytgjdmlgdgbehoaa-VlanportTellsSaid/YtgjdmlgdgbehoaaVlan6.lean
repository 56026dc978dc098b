/- A set-up's text and back: plain. -/
import Derived.Test.YtgjdmlgdgbehoaaVlan5
set_option linter.unusedVariables false
set_option linter.unusedSimpArgs false
set_option maxRecDepth 100000
set_option maxHeartbeats 4000000
namespace Go.Proofs.Ytgjdmlgdgbehoaa.Am
open Go Go.RowKit
theorem byteAt_out (s : ByteArray) (i : Nat) (h : s.size ≤ i) : byteAt s i = 0 := by unfold byteAt; rw [dif_neg (by omega)]
theorem suf_at (s : ByteArray) (k i : Nat) : byteAt (suf s k) i = byteAt s (k + i) := by
  by_cases h : k + i < s.size
  · have h2 : i < (suf s k).size := by rw [suf_size]; omega
    rw [byteAt_get _ _ h2, byteAt_get _ _ h]
    simp only [suf_list]
    rw [List.getElem_drop]
  · rw [byteAt_out _ _ (by rw [suf_size]; omega), byteAt_out _ _ (by omega)]
theorem suf_zero (s : ByteArray) : suf s 0 = s := by apply ba_ext; rw [suf_list, List.drop_zero]
theorem empty_iff (s : ByteArray) : s = ⟨#[]⟩ ↔ s.size = 0 := by
  constructor
  · intro h; rw [h]; rfl
  · intro h
    apply ba_ext
    have : s.data.toList.length = 0 := by rw [len_list]; exact h
    rw [List.eq_nil_of_length_eq_zero this]
def decP (s : ByteArray) : Option (Bool × Int × List Int) :=
  if s.size < 3 then none else if byteAt s 0 = 65 ∧ s.size = 3 then some (false, w16 s 1, [])
  else if byteAt s 0 = 84 ∧ 4 ≤ s.size ∧ (s.size : Int) = 4 + 2 * byteAt s 3 then some (true, w16 s 1, pairs s (byteAt s 3).toNat) else none
def vParseV (s : ByteArray) : (Bool × Int × List Int) × Int := match decP s with
  | some p => if vRightB p.1 p.2.1 p.2.2 = true then (p, 0) else ((false, 0, []), 2)
  | none => ((false, 0, []), 2)
theorem takO_no (r : ByteArray) (n : Nat) : takO r n false = false := by unfold takO; split <;> rfl
theorem stp_no : ∀ (k : Nat) (l : List Int) (r : ByteArray), (stp l r false k).2.2 = false
  | 0, l, r => rfl
  | k + 1, l, r => by rw [stp, takO_no]; exact stp_no k _ _
theorem stp_ok (s : ByteArray) : ∀ (k j : Nat) (l : List Int), (4 + 2 * (j + k) ≤ s.size → stp l (suf s (4 + 2 * j)) true k = (l ++ (List.range k).map (fun i => w16 s (4 + 2 * (j + i))), suf s (4 + 2 * (j + k)), true)) ∧ (¬ 4 + 2 * (j + k) ≤ s.size → 4 + 2 * j ≤ s.size → (stp l (suf s (4 + 2 * j)) true k).2.2 = false)
  | 0, j, l => ⟨fun _ => by simp [stp], fun h h' => absurd h' (by omega)⟩
  | k + 1, j, l => by
    obtain ⟨h1, h2⟩ := stp_ok s k (j + 1) (l ++ [w16 s (4 + 2 * j)])
    by_cases hl : 4 + 2 * j + 2 ≤ s.size
    · have e1 : takR (suf s (4 + 2 * j)) 2 = suf s (4 + 2 * (j + 1)) := by unfold takR; rw [if_neg (by rw [suf_size]; omega), suf_suf]; rfl
      have e2 : takO (suf s (4 + 2 * j)) 2 true = true := by unfold takO; rw [if_neg (by rw [suf_size]; omega)]
      have e3 : takV (suf s (4 + 2 * j)) 2 = w16 s (4 + 2 * j) := by
        unfold takV
        rw [if_neg (by rw [suf_size]; omega)]
        show byteAt (suf s (4 + 2 * j)) 0 * 256 + byteAt (suf s (4 + 2 * j)) 1 = _
        rw [suf_at, suf_at]; rfl
      rw [stp, e1, e2, e3]
      refine ⟨fun h => ?_, fun h h' => h2 (by omega) (by omega)⟩
      rw [h1 (by omega), show j + (k + 1) = j + 1 + k by omega, List.append_assoc, List.range_succ_eq_map, List.map_cons, List.map_map]
      refine Prod.ext ?_ rfl
      show l ++ ([w16 s (4 + 2 * j)] ++ _) = l ++ (w16 s (4 + 2 * (j + 0)) :: _)
      rw [List.singleton_append]
      congr 2
      apply List.map_congr_left
      intro i _
      show w16 s (4 + 2 * (j + 1 + i)) = w16 s (4 + 2 * (j + (i + 1)))
      rw [show j + 1 + i = j + (i + 1) by omega]
    · refine ⟨fun h => by omega, fun _ h' => ?_⟩
      have e2 : takO (suf s (4 + 2 * j)) 2 true = false := by unfold takO; rw [if_pos (by rw [suf_size]; omega)]
      rw [stp, e2]
      exact stp_no _ _ _
theorem prog_is (s : ByteArray) : progP s = vParseV s := by
  have b3 := byteAt_range s 3
  by_cases h1 : s.size < 1
  · have hk : pK s = 0 := by unfold pK takV; rw [if_pos h1]
    have ho : pO s = false := by unfold pO takO; rw [if_pos h1]
    have hS : (pS s).2.2 = false := by unfold pS; rw [if_neg (by rw [hk]; decide), ho]; exact takO_no _ _
    unfold progP vParseV decP
    rw [if_pos (.inl (.inl hS)), if_pos (by omega)]
  have hk : pK s = byteAt s 0 := by unfold pK takV; rw [if_neg h1]; rfl
  have hr : pR s = suf s 1 := by unfold pR takR; rw [if_neg h1]
  have ho : pO s = true := by unfold pO takO; rw [if_neg h1]
  by_cases h3 : s.size < 3
  · have ht : takO (pR s) 2 (pO s) = false := by unfold takO; rw [hr, if_pos (by rw [suf_size]; omega)]
    have hS : (pS s).2.2 = false := by
      unfold pS
      rw [ht]
      split
      · rw [takO_no]; exact stp_no _ _ _
      · rfl
    unfold progP vParseV decP
    rw [if_pos (.inl (.inl hS)), if_pos h3]
  have hn : pN s = w16 s 1 := by
    unfold pN takV
    rw [hr, if_neg (by rw [suf_size]; omega)]
    show byteAt (suf s 1) 0 * 256 + byteAt (suf s 1) 1 = _
    rw [suf_at, suf_at]; rfl
  have hr2 : takR (pR s) 2 = suf s 3 := by unfold takR; rw [hr, if_neg (by rw [suf_size]; omega), suf_suf]
  have ho2 : takO (pR s) 2 (pO s) = true := by unfold takO; rw [hr, ho, if_neg (by rw [suf_size]; omega)]
  unfold vParseV decP
  rw [if_neg h3]
  by_cases h84 : byteAt s 0 = 84
  · rw [if_neg (c := byteAt s 0 = 65 ∧ s.size = 3) (fun q => by omega)]
    by_cases h4 : s.size < 4
    · have hS : (pS s).2.2 = false := by
        unfold pS
        rw [if_pos (by rw [hk]; exact h84), ho2, hr2]
        have : takO (suf s 3) 1 true = false := by unfold takO; rw [if_pos (by rw [suf_size]; omega)]
        rw [this]
        exact stp_no _ _ _
      unfold progP
      rw [if_pos (.inl (.inl hS)), if_neg (fun q => by omega)]
    · have hc : takV (suf s 3) 1 = byteAt s 3 := by
        unfold takV
        rw [if_neg (by rw [suf_size]; omega)]
        show byteAt (suf s 3) 0 = _
        rw [suf_at]
      have hr3 : takR (suf s 3) 1 = suf s 4 := by unfold takR; rw [if_neg (by rw [suf_size]; omega), suf_suf]
      have ho3 : takO (suf s 3) 1 true = true := by unfold takO; rw [if_neg (by rw [suf_size]; omega)]
      have hS : pS s = stp [] (suf s 4) true (byteAt s 3).toNat := by
        unfold pS
        rw [if_pos (by rw [hk]; exact h84), ho2, hr2, hc, hr3, ho3]
      obtain ⟨g1, g2⟩ := stp_ok s (byteAt s 3).toNat 0 []
      by_cases hl : 4 + 2 * (0 + (byteAt s 3).toNat) ≤ s.size
      · rw [g1 hl] at hS
        have hp : (List.range (byteAt s 3).toNat).map (fun i => w16 s (4 + 2 * (0 + i))) = pairs s (byteAt s 3).toNat := by unfold pairs; simp
        rw [hp, List.nil_append] at hS
        by_cases he : (s.size : Int) = 4 + 2 * byteAt s 3
        · rw [if_pos ⟨h84, by omega, he⟩]
          have hem : suf s (4 + 2 * (0 + (byteAt s 3).toNat)) = ⟨#[]⟩ := (empty_iff _).2 (by rw [suf_size]; omega)
          unfold progP
          rw [hS, hk, h84, hn, hem]
          dsimp only
          cases hv : vRightB true (w16 s 1) (pairs s (byteAt s 3).toNat) with
          | true => rw [if_neg (by simp [hv]), if_pos rfl]; rfl
          | false => rw [if_pos (.inr (.inr hv)), if_neg (by decide)]
        · rw [if_neg (fun q => he q.2.2)]
          unfold progP
          rw [hS]
          exact if_pos (.inl (.inr fun q => he (by have := (empty_iff _).1 q; rw [suf_size] at this; omega)))
      · rw [if_neg (fun q => hl (by omega))]
        unfold progP
        exact if_pos (.inl (.inl (by rw [hS]; exact g2 hl (by omega))))
  · rw [if_neg (c := byteAt s 0 = 84 ∧ 4 ≤ s.size ∧ (s.size : Int) = 4 + 2 * byteAt s 3) (fun q => h84 q.1)]
    have hS : pS s = ([], suf s 3, true) := by unfold pS; rw [if_neg (by rw [hk]; exact h84), hr2, ho2]
    by_cases h65 : byteAt s 0 = 65 ∧ s.size = 3
    · rw [if_pos h65]
      have hem : suf s 3 = ⟨#[]⟩ := (empty_iff _).2 (by rw [suf_size]; omega)
      unfold progP
      rw [hS, hk, hn, hem, decide_eq_false h84]
      dsimp only
      cases hv : vRightB false (w16 s 1) [] with
      | true => rw [if_neg (by simp [hv, h65.1]), if_pos rfl]
      | false => rw [if_pos (.inr (.inr rfl)), if_neg (by decide)]
    · rw [if_neg h65]
      unfold progP
      rw [hS, hk]
      by_cases h6 : byteAt s 0 = 65
      · exact if_pos (.inl (.inr fun q => h65 ⟨h6, by have := (empty_iff _).1 q; rw [suf_size] at this; omega⟩))
      · exact if_pos (.inr (.inl ⟨h6, h84⟩))
theorem byteAt_mk (L : List Int) (i : Nat) (x : Int) (h : L[i]? = some x) (hr : 0 ≤ x ∧ x < 256) : byteAt (mkS L) i = x := by
  obtain ⟨h1, h2⟩ := List.getElem?_eq_some_iff.1 h
  have := byteAt_cat L ⟨#[]⟩ i h1 (by rw [h2]; exact hr)
  rw [app_empty] at this
  rw [this, h2]
theorem ba_bytes {a b : ByteArray} (hs : a.size = b.size) (h : ∀ i, i < a.size → byteAt a i = byteAt b i) : a = b := by
  apply ba_ext
  apply List.ext_getElem (by rw [len_list, len_list, hs])
  intro i h1 h2
  rw [len_list] at h1 h2
  have := h i h1
  rw [byteAt_get _ _ h1, byteAt_get _ _ h2] at this
  exact UInt8.toNat_inj.1 (by omega)
theorem pairL_at (l : List Int) : ∀ (k : Nat) (x : Int), l[k]? = some x → (pairL l)[2 * k]? = some (x / 256) ∧ (pairL l)[2 * k + 1]? = some (x % 256) := by
  induction l with
  | nil => intro k x h; simp at h
  | cons y r ih =>
    intro k x h
    have e : pairL (y :: r) = y / 256 :: y % 256 :: pairL r := by unfold pairL; simp
    rw [e]
    cases k with
    | zero => simp at h; subst h; exact ⟨rfl, rfl⟩
    | succ k =>
      have := ih k x (by simpa using h)
      rw [show 2 * (k + 1) = 2 * k + 1 + 1 by omega, show 2 * k + 1 + 1 + 1 = (2 * k + 1) + 1 + 1 by omega]
      simpa using this
def prL (p : Bool × Int × List Int) : List Int := vPrintL p.1 p.2.1 p.2.2
theorem dec_print {p : Bool × Int × List Int} (h : vRightB p.1 p.2.1 p.2.2 = true) : decP (mkS (prL p)) = some p := by
  obtain ⟨t, n, l⟩ := p
  obtain ⟨hn, hl, hnil, hall⟩ := right_all h
  dsimp only at hn hl hnil hall
  cases t with
  | false =>
    obtain rfl := hnil rfl
    have e : prL (false, n, []) = [65, n / 256, n % 256] := rfl
    rw [e]
    have hs : (mkS [65, n / 256, n % 256]).size = 3 := by rw [mkS_size]; rfl
    have c0 := byteAt_mk [65, n / 256, n % 256] 0 65 rfl (by decide)
    have c1 := byteAt_mk [65, n / 256, n % 256] 1 (n / 256) rfl (by omega)
    have c2 := byteAt_mk [65, n / 256, n % 256] 2 (n % 256) rfl (by omega)
    unfold decP
    rw [if_neg (by omega), if_pos ⟨c0, hs⟩]
    unfold w16
    rw [c1, show 1 + 1 = 2 from rfl, c2, show n / 256 * 256 + n % 256 = n by omega]
  | true =>
    have e : prL (true, n, l) = headL n l.length ++ pairL l := rfl
    rw [e]
    have hs : (mkS (headL n l.length ++ pairL l)).size = 4 + 2 * l.length := by rw [mkS_size, List.length_append, pairL_len]; rfl
    have c0 := byteAt_mk (headL n l.length ++ pairL l) 0 84 rfl (by decide)
    have c1 := byteAt_mk (headL n l.length ++ pairL l) 1 (n / 256) rfl (by omega)
    have c2 := byteAt_mk (headL n l.length ++ pairL l) 2 (n % 256) rfl (by omega)
    have c3 := byteAt_mk (headL n l.length ++ pairL l) 3 l.length rfl (by omega)
    have hp : pairs (mkS (headL n l.length ++ pairL l)) l.length = l := by
      apply List.ext_getElem (by rw [pairs_len])
      intro i h1 h2
      have hx := pairL_at l i l[i] (List.getElem?_eq_getElem h2)
      have hr := hall l[i] (List.getElem_mem h2)
      have d1 := byteAt_mk (headL n l.length ++ pairL l) (4 + 2 * i) (l[i] / 256) (by rw [List.getElem?_append_right (by show 4 ≤ _; omega)]; show (pairL l)[4 + 2 * i - 4]? = _; rw [show 4 + 2 * i - 4 = 2 * i by omega]; exact hx.1) (by omega)
      have d2 := byteAt_mk (headL n l.length ++ pairL l) (4 + 2 * i + 1) (l[i] % 256) (by rw [List.getElem?_append_right (by show 4 ≤ _; omega)]; show (pairL l)[4 + 2 * i + 1 - 4]? = _; rw [show 4 + 2 * i + 1 - 4 = 2 * i + 1 by omega]; exact hx.2) (by omega)
      have hg : (pairs (mkS (headL n l.length ++ pairL l)) l.length)[i]'h1 = w16 (mkS (headL n l.length ++ pairL l)) (4 + 2 * i) := by simp [pairs]
      rw [hg]
      unfold w16
      rw [d1, d2]
      omega
    unfold decP
    rw [if_neg (by omega), if_neg (fun q => by omega), if_pos ⟨c0, by omega, by omega⟩, c3, Int.toNat_natCast, hp]
    unfold w16
    rw [c1, show 1 + 1 = 2 from rfl, c2, show n / 256 * 256 + n % 256 = n by omega]
theorem print_dec {s : ByteArray} {p : Bool × Int × List Int} (h : vRightB p.1 p.2.1 p.2.2 = true) (hd : decP s = some p) : mkS (prL p) = s := by
  have hp := dec_print h
  have hb := byteAt_range s
  have hb2 := byteAt_range (mkS (prL p))
  have key : ∀ (a b : ByteArray), decP a = some p → decP b = some p → a.size = b.size ∧ byteAt a 0 = byteAt b 0 ∧ (4 ≤ a.size → byteAt a 3 = byteAt b 3 ∧ (a.size : Int) = 4 + 2 * byteAt a 3 ∧ p.2.2 = pairs a (byteAt a 3).toNat ∧ p.2.2 = pairs b (byteAt b 3).toNat) ∧ (a.size = 3 ∨ 4 ≤ a.size) ∧ w16 a 1 = w16 b 1 := by
    have one : ∀ a : ByteArray, decP a = some p → (a.size = 3 ∧ byteAt a 0 = 65 ∧ p.1 = false ∧ p.2.1 = w16 a 1) ∨ (4 ≤ a.size ∧ byteAt a 0 = 84 ∧ (a.size : Int) = 4 + 2 * byteAt a 3 ∧ p.1 = true ∧ p.2.1 = w16 a 1 ∧ p.2.2 = pairs a (byteAt a 3).toNat) := by
      intro a ha
      unfold decP at ha
      split at ha
      · cases ha
      · split at ha
        · rename_i c; cases ha; exact .inl ⟨c.2, c.1, rfl, rfl⟩
        · split at ha
          · rename_i c; cases ha; exact .inr ⟨c.2.1, c.1, c.2.2, rfl, rfl, rfl⟩
          · cases ha
    intro a b ha hb
    rcases one a ha with ⟨a1, a2, a3, a4⟩ | ⟨a1, a2, a3, a4, a5, a6⟩ <;> rcases one b hb with ⟨b1, b2, b3, b4⟩ | ⟨b1, b2, b3, b4, b5, b6⟩
    · exact ⟨by omega, by omega, fun q => by omega, .inl a1, by rw [← a4, ← b4]⟩
    · rw [a3] at b4; cases b4
    · rw [b3] at a4; cases a4
    · have l1 := congrArg List.length a6
      have l2 := congrArg List.length b6
      rw [pairs_len] at l1 l2
      have := byteAt_range a 3
      have := byteAt_range b 3
      exact ⟨by omega, by omega, fun q => ⟨by omega, a3, a6, b6⟩, .inr a1, by rw [← a5, ← b5]⟩
  obtain ⟨k1, k2, k3, k4, k5⟩ := key _ _ hp hd
  refine ba_bytes k1 fun i hi => ?_
  have w : ∀ a b c d : Int, 0 ≤ b ∧ b < 256 → 0 ≤ d ∧ d < 256 → a * 256 + b = c * 256 + d → a = c ∧ b = d := by intro a b c d h1 h2 h3; omega
  have k6 := w _ _ _ _ (hb2 2) (hb 2) k5
  rcases (show i = 0 ∨ i = 1 ∨ i = 2 ∨ i = 3 ∨ 4 ≤ i by omega) with rfl | rfl | rfl | rfl | h4
  · exact k2
  · exact k6.1
  · exact k6.2
  · exact (k3 (by omega)).1
  · obtain ⟨m1, m2, m3, m4⟩ := k3 (by omega)
    obtain ⟨j, hj⟩ : ∃ j, j = (i - 4) / 2 := ⟨_, rfl⟩
    have hjc : j < (byteAt (mkS (prL p)) 3).toNat := by omega
    have e := m3.symm.trans m4
    rw [← m1] at e
    have e2 : w16 (mkS (prL p)) (4 + 2 * j) = w16 s (4 + 2 * j) := by
      have := congrArg (fun l => l[j]?) e
      unfold pairs at this
      simpa [List.getElem?_map, List.getElem?_range hjc] using this
    have k7 := w _ _ _ _ (hb2 _) (hb _) e2
    rcases (show i = 4 + 2 * j ∨ i = 4 + 2 * j + 1 by omega) with e3 | e3
    · rw [e3]; exact k7.1
    · rw [e3]; exact k7.2
theorem print_zero {t : Bool} {n : Int} {l : List Int} : ((vPrintV t n l).2 = 0 ↔ vRightB t n l = true) ∧ (vRightB t n l = true → (vPrintV t n l).1 = mkS (vPrintL t n l)) := by
  unfold vPrintV
  cases vRightB t n l <;> simp
theorem ref_is (s : ByteArray) : parse6P s = vParseV s := by
  by_cases h3 : s.size < 3
  · unfold parse6P vParseV decP
    rw [if_pos h3, if_pos h3]
  unfold parse6P
  rw [if_neg h3]
  obtain ⟨z1, z2⟩ := print_zero (t := decide (byteAt s 0 = 84)) (n := w16 s 1) (l := pairs s (m6 s))
  by_cases hr : vRightB (decide (byteAt s 0 = 84)) (w16 s 1) (pairs s (m6 s)) = true
  · by_cases hm : mkS (vPrintL (decide (byteAt s 0 = 84)) (w16 s 1) (pairs s (m6 s))) = s
    · have hd := dec_print (p := (decide (byteAt s 0 = 84), w16 s 1, pairs s (m6 s))) hr
      rw [show prL (decide (byteAt s 0 = 84), w16 s 1, pairs s (m6 s)) = vPrintL (decide (byteAt s 0 = 84)) (w16 s 1) (pairs s (m6 s)) from rfl, hm] at hd
      unfold vParseV
      rw [if_neg (fun q => q.elim (fun q => q (z1.2 hr)) (fun q => q (by rw [z2 hr]; exact hm))), hd]
      dsimp only
      rw [if_pos hr]
    · rw [if_pos (.inr (by rw [z2 hr]; exact hm))]
      unfold vParseV
      cases hd : decP s with
      | none => rfl
      | some p =>
        dsimp only
        cases hv : vRightB p.1 p.2.1 p.2.2 with
        | false => rfl
        | true =>
          exfalso
          have hs := print_dec hv hd
          refine hm ?_
          have : (decide (byteAt s 0 = 84), w16 s 1, pairs s (m6 s)) = p := by
            unfold decP at hd
            rw [if_neg h3] at hd
            split at hd
            · rename_i c
              cases hd
              rw [decide_eq_false (by omega), show m6 s = 0 from by unfold m6; omega]; rfl
            · split at hd
              · rename_i c
                cases hd
                have := byteAt_range s 3
                rw [decide_eq_true c.1, show m6 s = (byteAt s 3).toNat from by unfold m6; omega]
              · cases hd
          rw [← this] at hs
          exact hs
  · rw [if_pos (.inl (fun q => hr (z1.1 q)))]
    unfold vParseV
    cases hd : decP s with
    | none => rfl
    | some p =>
      dsimp only
      cases hv : vRightB p.1 p.2.1 p.2.2 with
      | false => rfl
      | true =>
        exfalso
        have : (decide (byteAt s 0 = 84), w16 s 1, pairs s (m6 s)) = p := by
          unfold decP at hd
          rw [if_neg h3] at hd
          split at hd
          · rename_i c
            cases hd
            rw [decide_eq_false (by omega), show m6 s = 0 from by unfold m6; omega]; rfl
          · split at hd
            · rename_i c
              cases hd
              have := byteAt_range s 3
              rw [decide_eq_true c.1, show m6 s = (byteAt s 3).toNat from by unfold m6; omega]
            · cases hd
        rw [← this] at hv
        exact hr hv
end Go.Proofs.Ytgjdmlgdgbehoaa.Am
