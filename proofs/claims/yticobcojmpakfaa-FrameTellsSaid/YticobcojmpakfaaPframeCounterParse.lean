-- Written by a program of this session (pp.py, over the kit's printer and texts given by hand).
import Derived.Test.YticobcojmpakfaaP0
import Derived.Test.YticobcojmpakfaaPframeNew
import Derived.Test.YticobcojmpakfaaPframeParse
namespace Go.Proofs.Yticobcojmpakfaa.P
open Go.RowKit Go.Proofs.YticobcojmpakfaaW.PrintWords Go.Proofs.YticobcojmpakfaaW.PrintLast Go.Proofs.YticobcojmpakfaaW.PrintMore
attribute [local go_sem] max2_int min2_int max_two min_two max_three min_three max_four min_four   -- for this text's walks alone
set_option linter.unusedVariables false
set_option linter.unusedSimpArgs false


/-! ### given by hand: frame_Counter_Parse: function 30 -/
set_option maxHeartbeats 1000000 in
theorem atomic_add (b off : Nat) (x : Int) (w : World) (hc : w.cell? ⟨b, off, none⟩ = some (.int .i64 x)) (hz : w.frozen? ⟨b, off, none⟩ = false) :
    Calls Try.prog 67 #[.pointer (some ⟨b, off, none⟩), .int .i64 1] w fun e w' => e = .returned (.int .i64 (wrap64 (x + 1))) ∧ w' = w.setCell ⟨b, off, none⟩ (.int .i64 (wrap64 (x + 1))) := by
  have hl := run_call_add (P := Try.prog) Try.func88 (by kernel_rfl) (by kernel_rfl) (by kernel_rfl) .i64 (by kernel_rfl) (y := 1) (s := wrap64 (x + 1)) hc hz (by simp [go_sem, wrap64, IntKind.wrap_i64])
  go_enter Try.func67, Try.ntmps67
  go_wp2
  go_ret
  exact ⟨rfl, rfl⟩

def frame_Counter_Parse.f (k : Nat) (s0_0 s0_1 : Int) (a1 : ByteArray) : Option (ByteArray × ByteArray × Bool × Int × Int × Int × ByteArray × Int × Int × Int) :=
  (frame_Parse.f k a1).bind fun r => if r.2.2.2.2.2.2.2 = 0 then some (r.1, r.2.1, r.2.2.1, r.2.2.2.1, r.2.2.2.2.1, r.2.2.2.2.2.1, r.2.2.2.2.2.2.1, r.2.2.2.2.2.2.2, wrap64 (s0_0 + 1), s0_1) else some (r.1, r.2.1, r.2.2.1, r.2.2.2.1, r.2.2.2.2.1, r.2.2.2.2.2.1, r.2.2.2.2.2.2.1, r.2.2.2.2.2.2.2, s0_0, wrap64 (s0_1 + 1))
theorem frame_Counter_Parse.mono : ∀ a0 a1 a2 k, LeO (frame_Counter_Parse.f k a0 a1 a2) (frame_Counter_Parse.f (k + 1) a0 a1 a2) := by
  intro a0 a1 a2 k
  unfold frame_Counter_Parse.f
  exact LeO.bind (frame_Parse.mono _ _) (fun _ => LeO.refl _)
set_option maxHeartbeats 1000000 in
set_option maxRecDepth 100000 in
theorem frame_Counter_Parse.calls (k : Nat) (g : Nat) (s0_0 : Int) (s0_1 : Int) (a1 : ByteArray) (r1 r2 : ByteArray) (r3 : Bool) (r4 r5 r6 : Int) (r7 : ByteArray) (r8 r9 r10 : Int) (w0 w : World) (hI : IsS105 w0 w g s0_0 s0_1) (hB : Below w0.heap.size w0 w) (h : frame_Counter_Parse.f k s0_0 s0_1 a1 = some (r1, r2, r3, r4, r5, r6, r7, r8, r9, r10)) :
    Calls Try.prog 30 #[.pointer (some ⟨g, 0, none⟩), .string a1] w fun e w' => e = .returned (.tuple #[.agg #[.string r1, .string r2, .bool r3, .int .i64 r4, .int .i64 r5, .int .i64 r6, .string r7], .int .i64 r8]) ∧ IsS105 w0 w' g r9 r10 ∧ Below w0.heap.size w0 w' ∧ KeepBut w w' g none := by
  have hu23 := Try.underlying23
  have hu := Try.underlying105
  obtain ⟨hb, hg⟩ := hI
  have h0 : w.cell? ⟨g, 0, none⟩ = some (.int .i64 s0_0) := (blk_cell hb 0).trans rfl
  have h1 : w.cell? ⟨g, 1, none⟩ = some (.int .i64 s0_1) := (blk_cell hb 1).trans rfl
  have f0 := blk_frozen hb 0
  have f1 := blk_frozen hb 1
  have hlt : g < w.heap.size := blk_lt hb
  have hne : ¬ g = w.heap.size := by omega
  have hne2 : ¬ w.heap.size = g := by omega
  unfold frame_Counter_Parse.f at h
  obtain ⟨⟨q1, q2, q3, q4, q5, q6, q7, q8⟩, hp, h⟩ := Option.bind_eq_some_iff.mp h
  have Hp := Aside0.mk hp
  have Hb := Aside0.mk hb
  have HB := Aside0.mk hB
  clear hp hb hB
  by_cases c : q8 = 0
  · rw [if_pos c] at h
    simp only [Option.some.injEq, Prod.mk.injEq] at h
    obtain ⟨rfl, rfl, rfl, rfl, rfl, rfl, rfl, rfl, rfl, rfl⟩ := h
    have cb : (q8 == 0) = true := beq_iff_eq.mpr c
    clear c
    go_enter Try.func30, Try.ntmps30
    go_wp2_with fail
    refine (frame_Parse.calls k _ _ _ _ _ _ _ _ _ _ Hp.out).mono ?_
    rintro e w1 ⟨rfl, hbl⟩
    obtain ⟨hc, hf⟩ := bcell hbl
    have hz := hbl.size
    simp only [World.size_alloc] at hz
    have hlt1 : g < w1.heap.size := by omega
    have hlt2 : w.heap.size < w1.heap.size := by omega
    have hne3 : ¬ w1.heap.size = g := by omega
    have hne4 : ¬ g = w1.heap.size := by omega
    go_wp2_with fail
    refine (atomic_add g 0 s0_0 _ (by go_simp) (by go_simp)).mono ?_
    rintro e w2 ⟨rfl, rfl⟩
    go_wp2_with fail
    have hsz0 := HB.out.size
    refine bodyPost_ret (v := .tuple #[.agg #[.string q1, .string q2, .bool q3, .int .i64 q4, .int .i64 q5, .int .i64 q6, .string q7], .int .i64 q8]) (by simp [results, Try.results30, go_sem, hc, hz, hlt2, hne2]) rfl ⟨rfl, ?_, ?_, ?_⟩
    · have B1 : w1.heap[g]? = some (.cells #[.int .i64 s0_0, .int .i64 s0_1] 105 (0, 0)) := blk_below (blk_alloc Hb.out _) hbl
      have B2 : (w1.setCell ⟨g, 0, none⟩ (.int .i64 (wrap64 (s0_0 + 1)))).heap[g]? = some (.cells #[.int .i64 (wrap64 (s0_0 + 1)), .int .i64 s0_1] 105 (0, 0)) := blk_put B1 0 _ rfl
      refine And.intro ?_ hg
      show ((sets (w1.setCell ⟨g, 0, none⟩ (.int .i64 (wrap64 (s0_0 + 1)))) w.heap.size 0 [.string q1, .string q2, .bool q3, .int .i64 q4, .int .i64 q5, .int .i64 q6, .string q7]).alloc _).heap[g]? = _
      exact blk_alloc (blk_sets hne _ _ _ B2) _
    · show Below w0.heap.size w0 ((sets (w1.setCell ⟨g, 0, none⟩ (.int .i64 (wrap64 (s0_0 + 1)))) w.heap.size 0 [.string q1, .string q2, .bool q3, .int .i64 q4, .int .i64 q5, .int .i64 q6, .string q7]).alloc _)
      exact below_alloc (below_sets hsz0 _ _ _ (below_set (below_step (below_alloc HB.out _) hbl) hg)) _
    · show KeepBut w ((sets (w1.setCell ⟨g, 0, none⟩ (.int .i64 (wrap64 (s0_0 + 1)))) w.heap.size 0 [.string q1, .string q2, .bool q3, .int .i64 q4, .int .i64 q5, .int .i64 q6, .string q7]).alloc _) g none
      exact keep_alloc (keep_sets (Nat.le_refl _) _ _ _ (KeepBut.set_ (KeepBut.trans (keep_alloc (KeepBut.refl w g none) _) (KeepBut.of_below hbl g none) (.inl rfl)) 0 _)) _
  · rw [if_neg c] at h
    simp only [Option.some.injEq, Prod.mk.injEq] at h
    obtain ⟨rfl, rfl, rfl, rfl, rfl, rfl, rfl, rfl, rfl, rfl⟩ := h
    have cb : (q8 == 0) = false := beq_eq_false_iff_ne.mpr c
    clear c
    go_enter Try.func30, Try.ntmps30
    go_wp2_with fail
    refine (frame_Parse.calls k _ _ _ _ _ _ _ _ _ _ Hp.out).mono ?_
    rintro e w1 ⟨rfl, hbl⟩
    obtain ⟨hc, hf⟩ := bcell hbl
    have hz := hbl.size
    simp only [World.size_alloc] at hz
    have hlt1 : g < w1.heap.size := by omega
    have hlt2 : w.heap.size < w1.heap.size := by omega
    have hne3 : ¬ w1.heap.size = g := by omega
    have hne4 : ¬ g = w1.heap.size := by omega
    go_wp2_with fail
    refine (atomic_add g 1 s0_1 _ (by go_simp) (by go_simp)).mono ?_
    rintro e w2 ⟨rfl, rfl⟩
    go_wp2_with fail
    have hsz0 := HB.out.size
    refine bodyPost_ret (v := .tuple #[.agg #[.string q1, .string q2, .bool q3, .int .i64 q4, .int .i64 q5, .int .i64 q6, .string q7], .int .i64 q8]) (by simp [results, Try.results30, go_sem, hc, hz, hlt2, hne2]) rfl ⟨rfl, ?_, ?_, ?_⟩
    · have B1 : w1.heap[g]? = some (.cells #[.int .i64 s0_0, .int .i64 s0_1] 105 (0, 0)) := blk_below (blk_alloc Hb.out _) hbl
      have B2 : (w1.setCell ⟨g, 1, none⟩ (.int .i64 (wrap64 (s0_1 + 1)))).heap[g]? = some (.cells #[.int .i64 s0_0, .int .i64 (wrap64 (s0_1 + 1))] 105 (0, 0)) := blk_put B1 1 _ rfl
      refine And.intro ?_ hg
      show ((sets (w1.setCell ⟨g, 1, none⟩ (.int .i64 (wrap64 (s0_1 + 1)))) w.heap.size 0 [.string q1, .string q2, .bool q3, .int .i64 q4, .int .i64 q5, .int .i64 q6, .string q7]).alloc _).heap[g]? = _
      exact blk_alloc (blk_sets hne _ _ _ B2) _
    · show Below w0.heap.size w0 ((sets (w1.setCell ⟨g, 1, none⟩ (.int .i64 (wrap64 (s0_1 + 1)))) w.heap.size 0 [.string q1, .string q2, .bool q3, .int .i64 q4, .int .i64 q5, .int .i64 q6, .string q7]).alloc _)
      exact below_alloc (below_sets hsz0 _ _ _ (below_set (below_step (below_alloc HB.out _) hbl) hg)) _
    · show KeepBut w ((sets (w1.setCell ⟨g, 1, none⟩ (.int .i64 (wrap64 (s0_1 + 1)))) w.heap.size 0 [.string q1, .string q2, .bool q3, .int .i64 q4, .int .i64 q5, .int .i64 q6, .string q7]).alloc _) g none
      exact keep_alloc (keep_sets (Nat.le_refl _) _ _ _ (KeepBut.set_ (KeepBut.trans (keep_alloc (KeepBut.refl w g none) _) (KeepBut.of_below hbl g none) (.inl rfl)) 1 _)) _

end Go.Proofs.Yticobcojmpakfaa.P
