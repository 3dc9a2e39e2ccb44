/-
  The walk of the reference's Best; that both Bests are one.
-/
import Derived.Test.YtfphgcplpokigaaWaitB
namespace Go.Proofs.Ytfphgcplpokigaa
open Go.RowKit Go.Sx

def rStep (lv : List Int) (best t : Int) : Int := if t < lv.length ∧ (best < 0 ∨ lvAt lv t < lvAt lv best) then t else best
def rBest (lv l : List Int) : Int := if l.foldl (rStep lv) (-1) < 0 ∧ l ≠ [] then l.getD 0 0 else l.foldl (rStep lv) (-1)

theorem rStep_cases (lv l : List Int) (h : ∀ t ∈ l, 0 ≤ t) : l.foldl (rStep lv) (-1) = -1 ∨ (0 ≤ l.foldl (rStep lv) (-1) ∧ l.foldl (rStep lv) (-1) < lv.length ∧ l.foldl (rStep lv) (-1) ∈ l) := by
  have key : ∀ (l : List Int) (b : Int), (∀ t ∈ l, 0 ≤ t) → l.foldl (rStep lv) b = b ∨ (0 ≤ l.foldl (rStep lv) b ∧ l.foldl (rStep lv) b < lv.length ∧ l.foldl (rStep lv) b ∈ l) := by
    intro l
    induction l with
    | nil => intro b _; exact .inl rfl
    | cons t r ih =>
      intro b h
      rw [List.foldl_cons]
      rcases ih (rStep lv b t) (fun x hx => h x (by simp [hx])) with e | ⟨e1, e2, e3⟩
      · rw [e]
        unfold rStep
        split
        · rename_i hc; exact .inr ⟨h t (by simp), hc.1, by simp⟩
        · exact .inl rfl
      · exact .inr ⟨e1, e2, by simp [e3]⟩
  exact key l (-1) h

theorem best_agree (lv : List Int) (t0 : Int) (r : List Int) (h0 : 0 ≤ t0) (h : ∀ t ∈ r, 0 ≤ t) : rBest lv (t0 :: r) = bestOf lv (t0 :: r) := by
  have key : ∀ (r : List Int) (b c : Int), (∀ t ∈ r, 0 ≤ t) → (b < 0 ∧ c = t0 ∧ (lv.length : Int) ≤ t0 ∨ 0 ≤ b ∧ b < lv.length ∧ c = b) →
      (r.foldl (rStep lv) b < 0 ∧ r.foldl (bestStep lv) c = t0 ∨ 0 ≤ r.foldl (rStep lv) b ∧ r.foldl (bestStep lv) c = r.foldl (rStep lv) b) := by
    intro r
    induction r with
    | nil => intro b c _ hi; rcases hi with ⟨h1, h2, _⟩ | ⟨h1, _, h2⟩
             · exact .inl ⟨h1, h2⟩
             · exact .inr ⟨h1, h2⟩
    | cons t r ih =>
      intro b c h hi
      rw [List.foldl_cons, List.foldl_cons]
      have ht := h t (by simp)
      refine ih _ _ (fun x hx => h x (by simp [hx])) ?_
      unfold rStep bestStep
      rcases hi with ⟨h1, rfl, h3⟩ | ⟨h1, h2, rfl⟩
      · by_cases hc : t < lv.length
        · rw [if_pos ⟨hc, .inl h1⟩, if_pos ⟨hc, .inl h3⟩]; exact .inr ⟨ht, hc, rfl⟩
        · rw [if_neg (fun e => hc e.1), if_neg (fun e => hc e.1)]; exact .inl ⟨h1, rfl, h3⟩
      · by_cases hc : t < lv.length ∧ lvAt lv t < lvAt lv c
        · rw [if_pos ⟨hc.1, .inr hc.2⟩, if_pos ⟨hc.1, .inr hc.2⟩]; exact .inr ⟨ht, hc.1, rfl⟩
        · rw [if_neg (fun e => hc ⟨e.1, e.2.resolve_left (by omega)⟩), if_neg (fun e => hc ⟨e.1, e.2.resolve_left (by omega)⟩)]; exact .inr ⟨h1, h2, rfl⟩
  have h1 : rStep lv (-1) t0 < 0 ∧ t0 = t0 ∧ (lv.length : Int) ≤ t0 ∨ 0 ≤ rStep lv (-1) t0 ∧ rStep lv (-1) t0 < lv.length ∧ t0 = rStep lv (-1) t0 := by
    unfold rStep
    by_cases hc : t0 < lv.length
    · rw [if_pos ⟨hc, .inl (by omega)⟩]; exact .inr ⟨h0, hc, rfl⟩
    · rw [if_neg (fun e => hc e.1)]; exact .inl ⟨by omega, rfl, by omega⟩
  have h2 := key r (rStep lv (-1) t0) t0 h h1
  change rBest lv (t0 :: r) = r.foldl (bestStep lv) t0
  unfold rBest
  rw [List.foldl_cons]
  rcases h2 with ⟨e1, e2⟩ | ⟨e1, e2⟩
  · rw [if_pos ⟨e1, by simp⟩, e2]; rfl
  · rw [if_neg (by omega), e2]

theorem refBest (v lvv : Value) (l lv : List Int) (w : World) (h : RdN .i64 w v l) (hlv : RdN .i64 w lvv lv) (hok : ∀ t ∈ l, 0 ≤ t) (hl : l.length ≤ 1000000) :
    Calls Try.prog 73 #[v, lvv] w (Drawn (.int .i64 (rBest lv l)) w) := by
  obtain ⟨a, cap, b, off, rfl, hcap, hbig, ha, hc⟩ := h
  obtain ⟨la, lcap, lb, loff, rfl, hlcap, hlbig, hla, hlc⟩ := hlv
  unfold maxLen at hbig hlbig
  go_enter Try.func73, Try.ntmps73
  go_wp2_with fail
  go_loopw [5, 6] (fun bst i wr => ∃ k n : Nat, k ≤ l.length ∧ i = .int .i64 k ∧ bst = .int .i64 ((l.take k).foldl (rStep lv) (-1)) ∧ wr = w.drewN n) (fun _ i _ => l.length - (intOf i).toNat)
  case atStart => exact ⟨0, 0, Nat.zero_le _, rfl, rfl, rfl⟩
  case round =>
    obtain ⟨k, n, hk, rfl, rfl, rfl⟩ := hrel
    have hq := rStep_cases lv (l.take k) (fun t ht => hok t (List.mem_of_mem_take ht))
    by_cases hlt : k < l.length
    · obtain rfl := ha (by intro h; simp [h] at hlt)
      obtain ⟨m, hm⟩ := Int.eq_ofNat_of_zero_le (hok (l.getD k 0) (by simp [List.getD, hlt]))
      have hcell : w.cell? ⟨b, off + k, none⟩ = some (.int .i64 (m : Int)) := by rw [← hm]; exact hc k hlt
      have hnext := hid (fold_next (rStep lv) l (-1) k m hlt hm)
      clear hc ha hm hok
      by_cases c1 : m < lv.length
      · obtain rfl := hla (by intro e; simp [e] at c1)
        have d1 : decide (m < lv.length) = true := by simp [c1]
        have l1 := hlc m c1
        rcases hq with hq | ⟨q1, q2, _⟩
        · rw [hq]
          have hq := hid hq
          clear hlc hla
          go_wp2_with fail
          go_quiet (fail)
          go_wp2
          go_roundw
          case rel => exact ⟨k + 1, _, by omega, by go_num, int_congr (by rw [hnext.out, hq.out]; unfold rStep; rw [if_pos ⟨by omega, .inl (by omega)⟩]), rfl⟩
          case measure => simp [intOf]; omega
        · obtain ⟨q, hq⟩ := Int.eq_ofNat_of_zero_le q1
          rw [hq] at q2
          have hq' := hid hq
          rw [hq]
          have d2 : decide ((q : Int) < 0) = false := by simp
          have l2 := hlc q (by omega)
          clear hq q1
          have e1 : lvAt lv (m : Int) = lv.getD m 0 := rfl
          have e2 : lvAt lv (q : Int) = lv.getD q 0 := rfl
          generalize lv.getD m 0 = x at l1 e1
          generalize lv.getD q 0 = y at l2 e2
          have e1 := hid e1
          have e2 := hid e2
          have q3 : q < lv.length := by omega
          clear hlc hla
          by_cases hxy : x < y
          · have d3 : decide (x < y) = true := by simp [hxy]
            go_wp2_with fail
            go_quiet (fail)
            go_wp2
            go_roundw
            case rel => exact ⟨k + 1, _, by omega, by go_num, int_congr (by rw [hnext.out, hq'.out]; unfold rStep; rw [if_pos ⟨by omega, .inr (by rw [e1.out, e2.out]; exact hxy)⟩]), rfl⟩
            case measure => simp [intOf]; omega
          · have d3 : decide (x < y) = false := by simp; omega
            go_wp2_with fail
            go_quiet (fail)
            go_wp2
            go_roundw
            case rel => exact ⟨k + 1, _, by omega, by go_num, int_congr (by rw [hnext.out, hq'.out]; unfold rStep; rw [if_neg (by rw [e1.out, e2.out]; omega)]), rfl⟩
            case measure => simp [intOf]; omega
      · have d1 : decide (m < lv.length) = false := by simp; omega
        have e0 : rStep lv ((l.take k).foldl (rStep lv) (-1)) m = (l.take k).foldl (rStep lv) (-1) := by unfold rStep; rw [if_neg (by omega)]
        have e0 := hid e0
        generalize (l.take k).foldl (rStep lv) (-1) = q at *
        clear hlc hla hq
        go_wp2_with fail
        go_quiet (fail)
        go_wp2
        go_roundw
        case rel => exact ⟨k + 1, _, by omega, by go_num, int_congr (by rw [hnext.out, e0.out]), rfl⟩
        case measure => simp [intOf]; omega
    · have hk' : l.take k = l := List.take_of_length_le (by omega)
      rw [hk'] at hq ⊢
      have hfin : ∀ x, rBest lv l = x → Drawn (.int .i64 (rBest lv l)) w (.returned (.int .i64 x)) (w.drewN n) := fun x hx => ⟨by rw [hx], n, rfl⟩
      by_cases hn : l = []
      · subst hn
        go_wp2_with fail
        go_ret
        exact hfin _ rfl
      · have c0 : w.cell? ⟨b, off, none⟩ = some (.int .i64 (l.getD 0 0)) := hc 0 (List.length_pos_iff.2 hn)
        obtain rfl := ha hn
        have hpos : 0 < l.length := List.length_pos_iff.2 hn
        have hpos' : decide ((0 : Int) < (l.length : Int)) = true := by simp; omega
        rcases hq with hq | ⟨q1, q2, _⟩
        · rw [hq]
          have hr : rBest lv l = l.getD 0 0 := by unfold rBest; rw [if_pos ⟨by omega, hn⟩]
          have hq := hid hq
          generalize l.getD 0 0 = x at hr c0
          have hr := hid hr
          clear hc ha hlc hla hok
          go_wp2_with fail
          go_ret
          exact hfin _ hr.out
        · have hr : rBest lv l = l.foldl (rStep lv) (-1) := by unfold rBest; rw [if_neg (by omega)]
          have d2 : decide (l.foldl (rStep lv) (-1) < 0) = false := by simp; omega
          generalize l.foldl (rStep lv) (-1) = q at *
          have hr := hid hr
          clear hc ha hlc hla hok
          go_wp2_with fail
          go_ret
          exact hfin _ hr.out
end Go.Proofs.Ytfphgcplpokigaa
