/-
  Audit: the reference's Check of an event.
-/
import Derived.Test.YtfphgcplpokigaaAuditV
namespace Go.Proofs.Ytfphgcplpokigaa
open Go.RowKit Go.Sx Go.Au
set_option linter.unusedSimpArgs false
set_option linter.unusedVariables false

set_option maxRecDepth 100000 in
set_option maxHeartbeats 8000000 in
theorem rfCheck (k : Int) (cy co : Int) (a b v : Nat) (w0 w : World) (P : HP) [hs : Sat w0 w P] :
    Calls Try.prog 79 #[.agg #[.int .i64 k, .int .u64 cy, .int .u64 co, .int .u32 a, .int .u32 b, .int .u32 v]] w fun e w' => ∃ n : Int, e = .returned (.int .i64 n) ∧ (n = 0 ↔ okE ⟨k, cy, co, a, b, v⟩ = true) ∧ Sat w0 w' P := by
  by_cases hk : 1 ≤ k ∧ k ≤ 24
  · obtain ⟨n, rfl⟩ := Int.eq_ofNat_of_zero_le (show 0 ≤ k by omega)
    have hn : 1 ≤ n ∧ n ≤ 24 := by omega
    have hd : decide (1 ≤ (n : Int) ∧ (n : Int) ≤ 24) = true := by simp; omega
    have g1 : decide ((n : Int) < 1) = false := by simp; omega
    have g2 : decide ((24 : Int) < (n : Int)) = false := by simp; omega
    have Hok : Hid (okE ⟨n, cy, co, a, b, v⟩ = (win a (shp n).1 && (win b (shp n).2.1 && !(decide (n = 5) && decide (a = b))) && win v (shp n).2.2)) := by
      unfold Hid okE
      rw [hd]
      show okN n a b v = _
      unfold okN
      rw [Bool.eq_iff_iff]; simp only [Bool.and_eq_true]; constructor
      · rintro ⟨⟨⟨h1, h2⟩, h3⟩, h4⟩; exact ⟨⟨h1, h2, h4⟩, h3⟩
      · rintro ⟨⟨h1, h2, h4⟩, h3⟩; exact ⟨⟨⟨h1, h2⟩, h3⟩, h4⟩
    generalize h1 : win a (shp n).1 = x1 at *
    generalize h2 : (win b (shp n).2.1 && !(decide (n = 5) && decide (a = b))) = x2 at *
    generalize h3 : win v (shp n).2.2 = x3 at *
    have H1 := hid h1
    have H2 := hid h2
    have H3 := hid h3
    clear h1 h2 h3 hd
    cases x1
    · go_enter Try.func79, Try.ntmps79
      go_wp2_with fail
      refine (rfFirst n a b v hn cy co w0 _ _).mono ?_
      rintro e w1 ⟨rfl, hs1⟩
      rw [H1.out]
      go_wp2_with fail
      go_ret
      exact ⟨_, rfl, by rw [Hok.out]; simp, own_left⟩
    · cases x2
      · go_enter Try.func79, Try.ntmps79
        go_wp2_with fail
        refine (rfFirst n a b v hn cy co w0 _ _).mono ?_
        rintro e w1 ⟨rfl, hs1⟩
        rw [H1.out]
        go_wp2_with fail
        refine (rfSecond n a b v hn cy co w0 _ _).mono ?_
        rintro e w2 ⟨rfl, hs2⟩
        rw [H2.out]
        go_wp2_with fail
        go_ret
        exact ⟨_, rfl, by rw [Hok.out]; simp, own_left⟩
      · cases x3
        all_goals
          go_enter Try.func79, Try.ntmps79
          go_wp2_with fail
          refine (rfFirst n a b v hn cy co w0 _ _).mono ?_
          rintro e w1 ⟨rfl, hs1⟩
          rw [H1.out]
          go_wp2_with fail
          refine (rfSecond n a b v hn cy co w0 _ _).mono ?_
          rintro e w2 ⟨rfl, hs2⟩
          rw [H2.out]
          go_wp2_with fail
          refine (rfThird n a b v hn cy co w0 _ _).mono ?_
          rintro e w3 ⟨rfl, hs3⟩
          rw [H3.out]
          go_wp2_with fail
          go_ret
          exact ⟨_, rfl, by rw [Hok.out]; simp, own_left⟩
  · have hd : decide (1 ≤ k ∧ k ≤ 24) = false := by simp; omega
    by_cases h : k < 1
    all_goals
      first | (have g1 : decide (k < 1) = true := by simp [h])
            | (have g1 : decide (k < 1) = false := by simp [h])
      try have g2 : decide ((24 : Int) < k) = true := by simp; omega
      go_enter Try.func79, Try.ntmps79
      go_wp2_with fail
      go_ret
      refine ⟨_, rfl, ?_, own_left⟩
      simp [okE]; omega
end Go.Proofs.Ytfphgcplpokigaa
