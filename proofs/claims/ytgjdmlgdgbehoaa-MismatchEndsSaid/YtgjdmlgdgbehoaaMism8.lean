/- The plain law of layer 9: the map holds the last of what was heard. -/
import Derived.Test.YtgjdmlgdgbehoaaMism7
set_option linter.unusedVariables false
set_option linter.unusedSimpArgs false
namespace Go.Proofs.Ytgjdmlgdgbehoaa.Am
open Go Go.RowKit
def foldM (LL : List (Int × Int)) : List (Int × Int) := LL.foldl (fun M p => putM M p.1 p.2) []
theorem foldM_app (A B : List (Int × Int)) : foldM (A ++ B) = B.foldl (fun M p => putM M p.1 p.2) (foldM A) := by unfold foldM; rw [List.foldl_append]
theorem foldM_snoc (A : List (Int × Int)) (p : Int × Int) : foldM (A ++ [p]) = putM (foldM A) p.1 p.2 := by rw [foldM_app]; rfl
theorem snocInd {α : Type} {P : List α → Prop} (h0 : P []) (h1 : ∀ l x, P l → P (l ++ [x])) : ∀ l, P l := by
  intro l
  have : ∀ n, ∀ l : List α, l.length = n → P l := by
    intro n
    induction n with
    | zero => intro l hl; rw [List.eq_nil_of_length_eq_zero hl]; exact h0
    | succ n ih =>
      intro l hl
      rcases List.eq_nil_or_concat l with rfl | ⟨r, x, rfl⟩
      · exact h0
      · rw [List.concat_eq_append]; exact h1 r x (ih r (by simp at hl; omega))
  exact this _ l rfl
theorem foldM_nodup : ∀ LL : List (Int × Int), ((foldM LL).map (·.1)).Nodup := snocInd (by simp [foldM]) fun l p ih => by rw [foldM_snoc]; exact putM_nodup _ ih _ _
theorem getM_put (M : List (Int × Int)) (v u x : Int) : getM (putM M v u) x = if v = x then some u else getM M x := by
  induction M with
  | nil => simp [putM, getM]
  | cons p r ih =>
    by_cases hp : p.1 = v
    · rw [show putM (p :: r) v u = (v, u) :: r from if_pos hp, show getM (p :: r) x = if p.1 = x then some p.2 else getM r x from rfl, show getM ((v, u) :: r) x = if v = x then some u else getM r x from rfl, hp]
      by_cases hx : v = x
      · simp [hx]
      · simp [hx]
    · simp only [putM, if_neg hp, getM, ih]
      by_cases hx : p.1 = x
      · rw [if_pos hx, if_neg (fun e => hp (hx.trans e.symm)), if_pos hx]
      · rw [if_neg hx, if_neg hx]
theorem getM_mem {M : List (Int × Int)} (h : (M.map (·.1)).Nodup) (v u : Int) : getM M v = some u ↔ (v, u) ∈ M := by
  induction M with
  | nil => simp [getM]
  | cons p r ih =>
    obtain ⟨h1, h2⟩ := List.nodup_cons.1 h
    by_cases hp : p.1 = v
    · simp only [getM, if_pos hp, Option.some.injEq]
      constructor
      · intro e; rw [← hp, ← e]; exact List.mem_cons_self
      · intro hm
        rcases List.mem_cons.1 hm with e | hm
        · rw [← e]
        · exact (h1 (List.mem_map.2 ⟨_, hm, hp.symm⟩)).elim
    · simp only [getM, if_neg hp, ih h2, List.mem_cons]
      constructor
      · exact .inr
      · rintro (e | hm)
        · exact (hp (by rw [← e])).elim
        · exact hm
/-- Times rise. -/
def Rises (LL : List (Int × Int)) : Prop := LL.Pairwise fun a b => a.2 ≤ b.2
theorem getM_fold : ∀ LL : List (Int × Int), Rises LL → ∀ v, (∀ u, getM (foldM LL) v = some u → (v, u) ∈ LL ∧ ∀ p ∈ LL, p.1 = v → p.2 ≤ u) ∧ (getM (foldM LL) v = none → ∀ p ∈ LL, p.1 ≠ v) :=
  snocInd (by intro _ v; exact ⟨fun u h => by simp [foldM, getM] at h, fun _ p hp => by cases hp⟩) fun l q ih hr v => by
    obtain ⟨h1, h2, h3⟩ := List.pairwise_append.1 hr
    obtain ⟨i1, i2⟩ := ih h1 v
    rw [foldM_snoc, getM_put]
    by_cases hq : q.1 = v
    · rw [if_pos hq]
      refine ⟨fun u hu => ?_, fun h => by cases h⟩
      cases hu
      refine ⟨by rw [← hq]; simp, fun p hp hv => ?_⟩
      rcases List.mem_append.1 hp with hp | hp
      · exact h3 p hp q (by simp)
      · simp at hp; rw [hp]; exact Int.le_refl _
    · rw [if_neg hq]
      refine ⟨fun u hu => ?_, fun hn p hp => ?_⟩
      · obtain ⟨j1, j2⟩ := i1 u hu
        refine ⟨List.mem_append_left _ j1, fun p hp hv => ?_⟩
        rcases List.mem_append.1 hp with hp | hp
        · exact j2 p hp hv
        · simp at hp; rw [hp] at hv; exact (hq hv).elim
      · rcases List.mem_append.1 hp with hp | hp
        · exact i2 hn p hp
        · simp at hp; rw [hp]; exact hq
theorem blk_is {LL : List (Int × Int)} (hr : Rises LL) (now v : Int) : ((getM (foldM LL) v).isSome && decide (now < (getM (foldM LL) v).getD 0)) = blkB now LL v := by
  obtain ⟨h1, h2⟩ := getM_fold LL hr v
  unfold blkB
  cases hg : getM (foldM LL) v with
  | none =>
    have := h2 hg
    simp only [Option.isSome_none, Bool.false_and]
    refine (List.any_eq_false.2 fun p hp => ?_).symm
    simp [this p hp]
  | some u =>
    obtain ⟨j1, j2⟩ := h1 u hg
    simp only [Option.isSome_some, Bool.true_and, Option.getD_some]
    by_cases hu : now < u
    · rw [decide_eq_true hu]
      exact (List.any_eq_true.2 ⟨_, j1, by simp [hu]⟩).symm
    · rw [decide_eq_false hu]
      refine (List.any_eq_false.2 fun p hp => ?_).symm
      simp only [Bool.and_eq_true, decide_eq_true_eq, not_and]
      intro hv
      have := j2 p hp hv
      omega
theorem live_mem {LL : List (Int × Int)} (hr : Rises LL) (now v : Int) : v ∈ liveK now (foldM LL) ↔ blkB now LL v = true := by
  rw [← blk_is hr]
  unfold liveK
  simp only [List.mem_map, List.mem_filter, decide_eq_true_eq]
  constructor
  · rintro ⟨p, ⟨hp, hlt⟩, rfl⟩
    have := (getM_mem (foldM_nodup LL) p.1 p.2).2 hp
    rw [this]
    simp [hlt]
  · intro h
    cases hg : getM (foldM LL) v with
    | none => rw [hg] at h; simp at h
    | some u =>
      rw [hg] at h
      exact ⟨(v, u), ⟨(getM_mem (foldM_nodup LL) v u).1 hg, by simpa using h⟩, rfl⟩
theorem live_nodup (LL : List (Int × Int)) (now : Int) : (liveK now (foldM LL)).Nodup := by
  unfold liveK
  exact (foldM_nodup LL).sublist ((List.filter_sublist).map _)
theorem upTo_sorted (now : Int) (LL : List (Int × Int)) (k : Nat) : (upTo now LL k).Pairwise (· < ·) := by
  unfold upTo
  refine List.Pairwise.sublist List.filter_sublist (List.pairwise_map.2 ?_)
  refine (List.pairwise_lt_range).imp fun h => ?_
  omega
theorem upTo_mem (now : Int) (LL : List (Int × Int)) (k : Nat) (v : Int) : v ∈ upTo now LL k ↔ (1 ≤ v ∧ v ≤ k) ∧ blkB now LL v = true := by
  unfold upTo
  simp only [List.mem_filter, List.mem_map, List.mem_range]
  constructor
  · rintro ⟨⟨i, hi, rfl⟩, h⟩; exact ⟨⟨by omega, by omega⟩, h⟩
  · rintro ⟨⟨h1, h2⟩, h⟩; exact ⟨⟨(v - 1).toNat, by omega, by omega⟩, h⟩
theorem list_is {LL : List (Int × Int)} (hr : Rises LL) (hk : ∀ p ∈ LL, 1 ≤ p.1 ∧ p.1 ≤ 4094) (now : Int) : sortI (liveK now (foldM LL)) = upTo now LL 4094 := by
  have tr : ∀ a b c : Int, decide (a ≤ b) = true → decide (b ≤ c) = true → decide (a ≤ c) = true := fun a b c h1 h2 => by simp at *; omega
  have tt : ∀ a b : Int, (decide (a ≤ b) || decide (b ≤ a)) = true := fun a b => by simp; omega
  refine List.Perm.eq_of_pairwise (le := fun a b => decide (a ≤ b) = true) ?_ (List.pairwise_mergeSort tr tt _) ((upTo_sorted now LL 4094).imp fun h => by simp; omega) ?_
  · intro a b _ _ h1 h2; simp at h1 h2; omega
  · refine (List.mergeSort_perm _ _).trans ((List.perm_ext_iff_of_nodup (live_nodup LL now) ((upTo_sorted now LL 4094).imp fun h => by omega)).2 fun v => ?_)
    rw [live_mem hr, upTo_mem]
    constructor
    · intro h
      refine ⟨?_, h⟩
      obtain ⟨p, hp, h2⟩ := List.any_eq_true.1 h
      simp only [Bool.and_eq_true, decide_eq_true_eq] at h2
      have := hk p hp
      rw [h2.1] at this
      exact this
    · exact fun h => h.2
/-- The guard and the document's are of one mind. -/
structure Rel9 (t : Bool) (n : Int) (l : List Int) (hello : Int) (g : GuardV) (M : List (Int × Int)) (s : S9) : Prop where
  t : g.t = t
  n : g.n = n
  m : l.length = g.m
  hold : g.hold = 3 * hello
  st : g.st = 0
  now : g.now = s.now
  heard : g.heard = s.many
  recv : g.recv = s.first
  telld : g.telld = s.told
  done : (g.done = 0 ∧ s.first = 0 ∧ s.many = 0) ∨ (g.done = 1 ∧ 1 ≤ s.first ∧ 1 ≤ s.many)
  M : M = foldM s.LL
  rises : Rises s.LL
  top : ∀ p ∈ s.LL, p.2 ≤ s.now + 3 * hello
  keys : ∀ p ∈ s.LL, 1 ≤ p.1 ∧ p.1 ≤ 4094
  pos : 0 ≤ s.now ∧ s.now ≤ 1099511627776
theorem Rel9.at {t : Bool} {n : Int} {l : List Int} {hello : Int} {g : GuardV} {M : List (Int × Int)} {s : S9} (h : Rel9 t n l hello g M s) (now : Int) : Rel9 t n l hello (g.at now) M (s.at now) := by
  cases hb : timeB now with
  | false =>
    have e1 : g.at now = g := by unfold GuardV.at; rw [if_neg (by rw [hb]; decide)]
    have e2 : s.at now = s := by unfold S9.at; rw [if_neg (by rw [hb]; simp)]
    rw [e1, e2]; exact h
  | true =>
    have e1 : g.at now = { g with now := if now > g.now then now else g.now } := by unfold GuardV.at; rw [if_pos hb]
    rw [e1, S9.at_is s now hb]
    obtain ⟨h1, h2, h3, h4, h5, h6, h7, h8, h9, h10, h11, h12, h13, h14, h15⟩ := h
    simp only [timeB, Bool.and_eq_true, decide_eq_true_eq] at hb
    refine ⟨h1, h2, h3, h4, h5, by simp only [h6], h7, h8, h9, h10, h11, h12, fun p hp => ?_, h14, ?_⟩
    · have := h13 p hp
      show p.2 ≤ (if now > s.now then now else s.now) + _
      split <;> omega
    · show 0 ≤ (if now > s.now then now else s.now) ∧ (if now > s.now then now else s.now) ≤ _
      split <;> omega
theorem putL_told {t : Bool} {n : Int} {l : List Int} {r t' u : Int} (hr : vHasB t n l r = true) (M : List (Int × Int)) : putL t n l u (if t = true then [r, t'] else [n]) M = (toldL t n l r t' u).foldl (fun M p => putM M p.1 p.2) M := by
  cases t with
  | true =>
    rw [if_pos rfl]
    unfold toldL
    rw [if_pos rfl]
    simp only [putL, hr, if_true, List.foldl_cons]
    cases vHasB true n l t' <;> simp
  | false =>
    have hn : vHasB false n l n = true := by
      unfold vHasB at hr ⊢
      simp at hr ⊢
      exact hr.1
    unfold toldL
    simp [putL, hn]
theorem told_mem {t : Bool} {n : Int} {l : List Int} {r t' u : Int} (hr : vHasB t n l r = true) : ∀ p ∈ toldL t n l r t' u, p.2 = u ∧ 1 ≤ p.1 ∧ p.1 ≤ 4094 := by
  intro p hp
  unfold toldL at hp
  cases t with
  | true =>
    rw [if_pos rfl] at hp
    have h1 := has_range hr
    cases ht : vHasB true n l t' with
    | true =>
      have h2 := has_range ht
      rw [ht] at hp
      simp at hp
      rcases hp with rfl | rfl
      · exact ⟨rfl, h1⟩
      · exact ⟨rfl, h2⟩
    | false =>
      rw [ht] at hp
      simp at hp
      subst hp
      exact ⟨rfl, h1⟩
  | false =>
    have h1 := has_range hr
    have hn : r = n := by unfold vHasB at hr; simp at hr; exact hr.2
    simp at hp
    subst hp
    exact ⟨rfl, hn ▸ h1⟩
theorem Rel9.put {t : Bool} {n : Int} {l : List Int} {hello : Int} {g : GuardV} {M : List (Int × Int)} {s : S9} (h : Rel9 t n l hello g M s) (hh : 0 ≤ hello) {r t' now : Int} (hr : vHasB t n l r = true) (hs : vlanB r = true) :
    Rel9 t n l hello { g.at now with heard := g.heard + 1, done := 1, recv := if g.done = 0 then r else g.recv, telld := if g.done = 0 then t' else g.telld } (putL g.t g.n l ((g.at now).now + g.hold) (if g.t = true then [r, t'] else [g.n]) M) (s.hear t n l hello r t' now) := by
  have ha := h.at now
  have hv := has_range hr
  obtain ⟨a1, a2, a3, a4, a5, a6, a7, a8, a9, a10, a11, a12, a13, a14, a15⟩ := ha
  have eL : (s.at now).LL = s.LL := by unfold S9.at; split <;> rfl
  rw [eL] at a11 a12 a13 a14
  have hdf : g.done = 0 ↔ s.first = 0 := by rcases h.done with h | h <;> omega
  unfold S9.hear
  refine ⟨a1, a2, a3, a4, a5, a6, ?_, ?_, ?_, .inr ⟨rfl, ?_, ?_⟩, ?_, ?_, ?_, ?_, a15⟩
  · show g.heard + 1 = s.many + 1; rw [h.heard]
  · show (if g.done = 0 then r else g.recv) = if s.first = 0 then r else s.first
    rw [h.recv]; simp only [hdf]
  · show (if g.done = 0 then t' else g.telld) = if s.first = 0 then t' else s.told
    rw [h.telld]; simp only [hdf]
  · show 1 ≤ if s.first = 0 then r else s.first
    split
    · exact hv.1
    · rcases h.done with h | h <;> omega
  · show 1 ≤ s.many + 1
    rcases h.done with h | h <;> omega
  · show putL g.t g.n l ((g.at now).now + g.hold) _ M = foldM (s.LL ++ _)
    rw [foldM_app, h.t, h.n, h.M, h.hold, a6, putL_told hr]
  · refine List.pairwise_append.2 ⟨a12, ?_, fun p hp q hq => ?_⟩
    · have := told_mem (t := t) (n := n) (l := l) (r := r) (t' := t') (u := (s.at now).now + 3 * hello) hr
      refine List.pairwise_of_forall_mem_list ?_
      intro a ha b hb
      have h1 := (this a ha).1
      have h2 := (this b hb).1
      omega
    · have := (told_mem hr q hq).1
      have := a13 p hp
      omega
  · intro p hp
    rcases List.mem_append.1 hp with hp | hp
    · exact a13 p hp
    · have := (told_mem hr p hp).1
      show p.2 ≤ (s.at now).now + 3 * hello
      omega
  · intro p hp
    rcases List.mem_append.1 hp with hp | hp
    · exact a14 p hp
    · exact (told_mem hr p hp).2
end Go.Proofs.Ytgjdmlgdgbehoaa.Am
