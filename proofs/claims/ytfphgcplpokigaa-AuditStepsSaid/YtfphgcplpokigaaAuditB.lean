/-
  Audit: the contract of event.Check.
-/
import Derived.Test.YtfphgcplpokigaaAuditA
namespace Go.Proofs.Ytfphgcplpokigaa
open Go.RowKit Go.Sx Go.Au
set_option linter.unusedSimpArgs false
set_option linter.unusedVariables false

set_option maxRecDepth 100000 in
set_option maxHeartbeats 8000000 in
theorem evCheck (k : Int) (cy co : Int) (a b v : Nat) (w0 w : World) (P : HP) [hs : Sat w0 w P] :
    Calls Try.prog 77 #[.agg #[.int .i64 k, .int .u64 cy, .int .u64 co, .int .u32 a, .int .u32 b, .int .u32 v]] w fun e w' => ∃ n : Int, e = .returned (.int .i64 n) ∧ (n = 0 ↔ okE ⟨k, cy, co, a, b, v⟩ = true) ∧ Sat w0 w' P := by
  by_cases hk : 1 ≤ k ∧ k ≤ 24
  · obtain ⟨n, rfl⟩ := Int.eq_ofNat_of_zero_le (show 0 ≤ k by omega)
    have hn : 1 ≤ n ∧ n ≤ 24 := by omega
    have hd : decide (1 ≤ (n : Int) ∧ (n : Int) ≤ 24) = true := by simp; omega
    have Hok : Hid (okE ⟨n, cy, co, a, b, v⟩ = okN n a b v) := by simp [Hid, okE, hd]
    have Hsh := hid (show shV n = .agg #[.int .i64 (shp n).1, .int .i64 (shp n).2.1, .int .i64 (shp n).2.2] from rfl)
    have Hr : Hid ((shp n).1 ≤ 14 ∧ (shp n).2.1 ≤ 14 ∧ (shp n).2.2 ≤ 14) := by
      have h : ∀ m : Fin 25, (shp m).1 ≤ 14 ∧ (shp m).2.1 ≤ 14 ∧ (shp m).2.2 ≤ 14 := by decide
      exact h ⟨n, by omega⟩
    have Hn : Hid (okN n a b v = (win a (shp n).1 && win b (shp n).2.1 && win v (shp n).2.2 && !(decide (n = 5) && decide (a = b)))) := rfl
    generalize shp n = s at *
    obtain ⟨s1, s2, s3⟩ := s
    dsimp only at Hsh Hr Hn
    have hr1 := Hr.out.1
    have hr2 := Hr.out.2.1
    have hr3 := Hr.out.2.2
    by_cases h1 : win a s1 = true
    · by_cases h2 : win b s2 = true
      · by_cases h3 : win v s3 = true
        · by_cases h4 : n = 5
          · subst h4
            by_cases h5 : a = b
            all_goals
              have hab : ((a : Int) == (b : Int)) = decide (a = b) := by rw [Bool.eq_iff_iff]; simp; try omega
              first | rw [decide_eq_true h5] at hab | rw [decide_eq_false h5] at hab
              have H5 := hid h5
              clear h5
              go_enter Try.func77, Try.ntmps77
              go_wp2_with fail
              refine (evIs _ _).mono ?_
              rintro e w' ⟨rfl, rfl⟩
              rw [show decide ((1 : Int) ≤ 5 ∧ (5 : Int) ≤ 24) = true by decide]
              go_wp2_with fail
              refine (evShape _ hn w0 _ _).mono ?_
              rintro e w1 ⟨rfl, hs1⟩
              rw [Hsh.out]
              go_wp2_with fail
              refine (evWithin a s1 hr1 _).mono ?_
              rintro e w' ⟨rfl, rfl⟩
              rw [h1]
              go_wp2_with fail
              refine (evWithin b s2 hr2 _).mono ?_
              rintro e w' ⟨rfl, rfl⟩
              rw [h2]
              go_wp2_with fail
              refine (evWithin v s3 hr3 _).mono ?_
              rintro e w' ⟨rfl, rfl⟩
              rw [h3]
              go_wp2_with fail
              go_ret
              refine ⟨_, rfl, ?_, own_left⟩
              rw [Hok.out, Hn.out]
              have h5 := H5.out; simp [h1, h2, h3, h5]
          · have h5 : ((n : Int) == 5) = false := by simp; omega
            go_enter Try.func77, Try.ntmps77
            go_wp2_with fail
            refine (evIs _ _).mono ?_
            rintro e w' ⟨rfl, rfl⟩
            rw [hd]
            go_wp2_with fail
            refine (evShape _ hn w0 _ _).mono ?_
            rintro e w1 ⟨rfl, hs1⟩
            rw [Hsh.out]
            go_wp2_with fail
            refine (evWithin a s1 hr1 _).mono ?_
            rintro e w' ⟨rfl, rfl⟩
            rw [h1]
            go_wp2_with fail
            refine (evWithin b s2 hr2 _).mono ?_
            rintro e w' ⟨rfl, rfl⟩
            rw [h2]
            go_wp2_with fail
            refine (evWithin v s3 hr3 _).mono ?_
            rintro e w' ⟨rfl, rfl⟩
            rw [h3]
            go_wp2_with fail
            go_ret
            refine ⟨_, rfl, ?_, own_left⟩
            rw [Hok.out, Hn.out]
            simp [h1, h2, h3, h4]
        · have h3 : win v s3 = false := by simpa using h3
          go_enter Try.func77, Try.ntmps77
          go_wp2_with fail
          refine (evIs _ _).mono ?_
          rintro e w' ⟨rfl, rfl⟩
          rw [hd]
          go_wp2_with fail
          refine (evShape _ hn w0 _ _).mono ?_
          rintro e w1 ⟨rfl, hs1⟩
          rw [Hsh.out]
          go_wp2_with fail
          refine (evWithin a s1 hr1 _).mono ?_
          rintro e w' ⟨rfl, rfl⟩
          rw [h1]
          go_wp2_with fail
          refine (evWithin b s2 hr2 _).mono ?_
          rintro e w' ⟨rfl, rfl⟩
          rw [h2]
          go_wp2_with fail
          refine (evWithin v s3 hr3 _).mono ?_
          rintro e w' ⟨rfl, rfl⟩
          rw [h3]
          go_wp2_with fail
          go_ret
          refine ⟨_, rfl, ?_, own_left⟩
          rw [Hok.out, Hn.out]
          simp [h1, h2, h3]
      · have h2 : win b s2 = false := by simpa using h2
        go_enter Try.func77, Try.ntmps77
        go_wp2_with fail
        refine (evIs _ _).mono ?_
        rintro e w' ⟨rfl, rfl⟩
        rw [hd]
        go_wp2_with fail
        refine (evShape _ hn w0 _ _).mono ?_
        rintro e w1 ⟨rfl, hs1⟩
        rw [Hsh.out]
        go_wp2_with fail
        refine (evWithin a s1 hr1 _).mono ?_
        rintro e w' ⟨rfl, rfl⟩
        rw [h1]
        go_wp2_with fail
        refine (evWithin b s2 hr2 _).mono ?_
        rintro e w' ⟨rfl, rfl⟩
        rw [h2]
        go_wp2_with fail
        go_ret
        refine ⟨_, rfl, ?_, own_left⟩
        rw [Hok.out, Hn.out]
        simp [h1, h2]
    · have h1 : win a s1 = false := by simpa using h1
      go_enter Try.func77, Try.ntmps77
      go_wp2_with fail
      refine (evIs _ _).mono ?_
      rintro e w' ⟨rfl, rfl⟩
      rw [hd]
      go_wp2_with fail
      refine (evShape _ hn w0 _ _).mono ?_
      rintro e w1 ⟨rfl, hs1⟩
      rw [Hsh.out]
      go_wp2_with fail
      refine (evWithin a s1 hr1 _).mono ?_
      rintro e w' ⟨rfl, rfl⟩
      rw [h1]
      go_wp2_with fail
      go_ret
      refine ⟨_, rfl, ?_, own_left⟩
      rw [Hok.out, Hn.out]
      simp [h1]
  · have hd : decide (1 ≤ k ∧ k ≤ 24) = false := by simp; omega
    go_enter Try.func77, Try.ntmps77
    go_wp2_with fail
    refine (evIs _ _).mono ?_
    rintro e w' ⟨rfl, rfl⟩
    rw [hd]
    go_wp2_with fail
    go_ret
    refine ⟨_, rfl, ?_, own_left⟩
    simp [okE]; omega
end Go.Proofs.Ytfphgcplpokigaa
