/- What is sent is right: plain law. -/
import Derived.Test.YtmgoahmbdpoikaaSendL
import Derived.Test.YtmgoahmbdpoikaaBpdu
set_option linter.unusedVariables false
set_option linter.unusedSimpArgs false
set_option maxRecDepth 100000
set_option maxHeartbeats 4000000
namespace Go.Proofs.Ytmgoahmbdpoikaa.Am
open Go Go.RowKit
/-- The flags, of what they are made of. -/
def flagsB (tc ack asks learns forwards agrees : Bool) (role : Int) (config : Bool) : Int :=
  let n1 := putV tc 0 0
  if config then putV ack 7 n1 else
  let n2 := putV asks 1 n1
  let n3 := if 0 ≤ role ∧ role < 5 then bits .or .i64 n2 (IntKind.i64.wrap (roleBits role * 2 ^ min (2 : Int).toNat IntKind.i64.bits)) else n2
  putV agrees 6 (putV forwards 5 (putV learns 4 n3))
theorem flagsV_is (p : PortV) (c : Bool) : flagsV p c = flagsB (decide (0 < p.Tc)) p.TcAck p.Proposing p.Learning p.Forwarding p.Agree p.Role c := rfl
theorem flagsB_all : ∀ r ∈ ([1, 2, 3, 4] : List Int), ∀ a b c d e f g : Bool, (0 ≤ flagsB a b c d e f r g ∧ flagsB a b c d e f r g ≤ 255) ∧ (g = false → (roleV (flagsB a b c d e f r g) = 3 ↔ r = 2)) := by decide +kernel
theorem flags_ok (p : PortV) (c : Bool) (h1 : 1 ≤ p.Role) (h4 : p.Role ≤ 4) : (0 ≤ flagsV p c ∧ flagsV p c ≤ 255) ∧ (c = false → (roleV (flagsV p c) = 3 ↔ p.Role = 2)) := by
  rw [flagsV_is]
  exact flagsB_all p.Role (by simp only [List.mem_cons, List.not_mem_nil, or_false]; omega) _ _ _ _ _ _ _
theorem scaled_ok {n : Int} (h0 : 0 ≤ n) (h1 : n < 1099511627776) : in16 (scaledV n) = true := by
  unfold scaledV in16
  rw [w64 (by omega) (by omega)]
  split
  · simp; omega
  · decide
/-- A port's own, that sends. -/
def sendsP (b : BridgeV) (p : PortV) : Prop := rightB b = true ∧ p.On = true ∧ p.Ready = true ∧ p.Update = false ∧ ((p.SendRstp = true ∧ 1 ≤ p.Role ∧ p.Role ≤ 4) ∨ (p.SendRstp = false ∧ (p.Role = 1 ∨ p.Role = 2)))
def smallP (p : PortV) : Prop := (0 ≤ p.Given_Age ∧ p.Given_Age < 1099511627776) ∧ (0 ≤ p.Given_Max ∧ p.Given_Max < 1099511627776) ∧ (0 ≤ p.Given_Hello ∧ p.Given_Hello < 1099511627776) ∧ (0 ≤ p.Given_Delay ∧ p.Given_Delay < 1099511627776) ∧ p.Offer_Cost < 4294967296 ∧ p.Offer_Port ≤ 65535
/-- A port that has sent. -/
def Sent (p q : PortV) : Prop := q = { p with NewInfo := q.NewInfo, Hello := q.Hello, TxCount := q.TxCount, TcAck := q.TcAck }
theorem Sent.refl (p : PortV) : Sent p p := rfl
theorem sends_new {b : BridgeV} {p q : PortV} (hq : Sent p q) : sendsP b { q with NewInfo := true } ↔ sendsP b p := by
  unfold sendsP; unfold Sent at hq; rw [hq]
theorem message_ok {b : BridgeV} {q : PortV} (k : Int) (hk : k = 1 ∨ k = 3) (hs : smallP q) (h1 : 1 ≤ q.Role) (h4 : q.Role ≤ 4) :
    bRightV (messageV q k) = true ∧ (k = 3 → (roleV (messageV q k).Flags = 3 ↔ q.Role = 2)) := by
  obtain ⟨a1, a2, a3, a4, a5, a6⟩ := hs
  obtain ⟨f1, f2⟩ := flags_ok q (decide (k = 1)) h1 h4
  constructor
  · unfold bRightV
    rw [if_neg (show ¬ (messageV q k).Kind = 2 by show ¬ k = 2; omega)]
    have e1 : in16 (messageV q k).Age = true := scaled_ok a1.1 a1.2
    have e2 : in16 (messageV q k).Max = true := scaled_ok a2.1 a2.2
    have e3 : in16 (messageV q k).Hello = true := scaled_ok a3.1 a3.2
    have e4 : in16 (messageV q k).Delay = true := scaled_ok a4.1 a4.2
    have e5 : 0 ≤ (messageV q k).Flags := f1.1
    have e6 : (messageV q k).Flags ≤ 255 := f1.2
    have e7 : (messageV q k).Vector_Cost < 4294967296 := a5
    have e8 : (messageV q k).Vector_Port ≤ 65535 := a6
    have e9 : (messageV q k).Kind = k := rfl
    rw [e1, e2, e3, e4, e9]
    simp only [Bool.and_self, Bool.true_and, Bool.and_eq_true, Bool.or_eq_true, decide_eq_true_eq]
    omega
  · intro h3
    exact f2 (by simp; omega)
theorem notice_ok : bRightV { noBpdu with Kind := 2 } = true := by decide
/-- One sending. -/
theorem send_step (b : BridgeV) (p q : PortV) (hq : Sent p q) (hs : smallP p) (ht : 0 ≤ q.TxCount) :
    Sent p (sendV b { q with NewInfo := true }).1 ∧
    ((sendV b { q with NewInfo := true }).2.2 = false → (sendV b { q with NewInfo := true }).2.1 = noBpdu ∧ (sendV b { q with NewInfo := true }).1.TxCount = q.TxCount) ∧
    ((sendV b { q with NewInfo := true }).2.2 = true → sendsP b p ∧ q.TxCount < 6 ∧ (sendV b { q with NewInfo := true }).1.TxCount = q.TxCount + 1 ∧ bRightV (sendV b { q with NewInfo := true }).2.1 = true ∧
      ((sendV b { q with NewInfo := true }).2.1.Kind = 3 → (roleV (sendV b { q with NewInfo := true }).2.1.Flags = 3 ↔ p.Role = 2)) ∧
      ((sendV b { q with NewInfo := true }).2.1.Kind ≠ 2 → (sendV b { q with NewInfo := true }).2.1.Vector_Root = p.Offer_Root ∧ (sendV b { q with NewInfo := true }).2.1.Vector_Cost = p.Offer_Cost ∧ (sendV b { q with NewInfo := true }).2.1.Vector_Bridge = p.Offer_Bridge ∧ (sendV b { q with NewInfo := true }).2.1.Vector_Port = p.Offer_Port)) := by
  obtain ⟨n, h, t, a, rfl⟩ : ∃ n h t a, q = { p with NewInfo := n, Hello := h, TxCount := t, TcAck := a } := ⟨_, _, _, _, hq⟩
  replace ht : 0 ≤ t := ht
  clear hq
  have hm : ∀ k h, (k = 1 ∨ k = 3) → 1 ≤ p.Role → p.Role ≤ 4 → bRightV (messageV { p with NewInfo := false, Hello := h, TxCount := t, TcAck := a } k) = true ∧ (k = 3 → (roleV (messageV { p with NewInfo := false, Hello := h, TxCount := t, TcAck := a } k).Flags = 3 ↔ p.Role = 2)) :=
    fun k h hk h1 h4 => message_ok (b := b) k hk hs h1 h4
  have hw : t < 6 → IntKind.i64.wrap (t + 1) = t + 1 := fun h => w64 (by omega) (by omega)
  have hh : ∀ (h t : Int) (a : Bool), helloV b { p with NewInfo := true, Hello := h, TxCount := t, TcAck := a } = { p with NewInfo := true, Hello := if h = 0 then b.Times_Hello else h, TxCount := t, TcAck := a } := by
    intro h t a
    unfold helloV
    by_cases e : h = 0
    · rw [if_pos e, if_pos e]; simp
    · rw [if_neg e, if_neg e]
  unfold sendV
  rw [hh]
  by_cases c1 : rightB b = false ∨ p.On = false ∨ p.Ready = false ∨ p.Update = true
  · rw [if_pos c1]
    exact ⟨rfl, fun _ => ⟨rfl, rfl⟩, fun e => by cases e⟩
  rw [if_neg c1]
  by_cases c2 : 6 ≤ t
  · rw [if_pos (.inr c2)]
    exact ⟨rfl, fun _ => ⟨rfl, rfl⟩, fun e => by cases e⟩
  rw [if_neg (fun q => q.elim (fun h => by cases h) (fun h => c2 h))]
  have hb : rightB b = true ∧ p.On = true ∧ p.Ready = true ∧ p.Update = false := by
    simp only [not_or, Bool.not_eq_false, Bool.not_eq_true] at c1
    exact c1
  have ht6 := hw (by omega)
  by_cases c3 : p.SendRstp = true ∧ 1 ≤ p.Role ∧ p.Role ≤ 4
  · rw [if_pos c3]
    obtain ⟨m1, m2⟩ := hm 3 (if h = 0 then b.Times_Hello else h) (.inr rfl) c3.2.1 c3.2.2
    exact ⟨rfl, fun e => (by cases e), fun _ => ⟨⟨hb.1, hb.2.1, hb.2.2.1, hb.2.2.2, .inl c3⟩, (show t < 6 by omega), ht6, m1, fun _ => m2 rfl, fun _ => ⟨rfl, rfl, rfl, rfl⟩⟩⟩
  rw [if_neg c3]
  by_cases c4 : p.SendRstp = false ∧ p.Role = 2
  · rw [if_pos c4]
    obtain ⟨m1, m2⟩ := hm 1 (if h = 0 then b.Times_Hello else h) (.inl rfl) (by omega) (by omega)
    exact ⟨rfl, fun e => (by cases e), fun _ => ⟨⟨hb.1, hb.2.1, hb.2.2.1, hb.2.2.2, .inr ⟨c4.1, .inr c4.2⟩⟩, (show t < 6 by omega), ht6, m1, fun e => absurd (show (1 : Int) = 3 from e) (by decide), fun _ => ⟨rfl, rfl, rfl, rfl⟩⟩⟩
  rw [if_neg c4]
  by_cases c5 : p.SendRstp = false ∧ p.Role = 1
  · rw [if_pos c5]
    exact ⟨rfl, fun e => (by cases e), fun _ => ⟨⟨hb.1, hb.2.1, hb.2.2.1, hb.2.2.2, .inr ⟨c5.1, .inl c5.2⟩⟩, (show t < 6 by omega), ht6, notice_ok, fun e => absurd (show (2 : Int) = 3 from e) (by decide), fun e => absurd rfl e⟩⟩
  rw [if_neg c5]
  exact ⟨rfl, fun _ => ⟨rfl, rfl⟩, fun e => by cases e⟩
/-- Behind enough ticks. -/
theorem sends_again (b : BridgeV) (p q : PortV) (h : sendsP b p) (ht : q.TxCount < 6) (he : q.On = p.On ∧ q.Ready = p.Ready ∧ q.Update = p.Update ∧ q.SendRstp = p.SendRstp ∧ q.Role = p.Role) : (sendV b { q with NewInfo := true }).2.2 = true := by
  obtain ⟨h1, h2, h3, h4, h5⟩ := h
  obtain ⟨e1, e2, e3, e4, e5⟩ := he
  have hh : (helloV b { q with NewInfo := true }).NewInfo = true := by
    unfold helloV
    split <;> simp
  unfold sendV
  rw [if_neg (by simp only [not_or]; exact ⟨by simp [h1], by simp [e1, h2], by simp [e2, h3], by simp [e3, h4]⟩), if_neg (by rw [hh]; simp only [not_or]; exact ⟨by simp, by show ¬ 6 ≤ q.TxCount; omega⟩)]
  by_cases c3 : q.SendRstp = true ∧ 1 ≤ q.Role ∧ q.Role ≤ 4
  · rw [if_pos c3]
  rw [if_neg c3]
  by_cases c4 : q.SendRstp = false ∧ q.Role = 2
  · rw [if_pos c4]
  rw [if_neg c4]
  rw [e4, e5] at c3 c4
  rw [if_pos ?_]
  show q.SendRstp = false ∧ q.Role = 1
  rw [e4, e5]
  rcases h5 with h5 | ⟨h5, h6 | h6⟩
  · exact absurd h5 c3
  · exact ⟨h5, h6⟩
  · exact absurd ⟨h5, h6⟩ c4
end Go.Proofs.Ytmgoahmbdpoikaa.Am
