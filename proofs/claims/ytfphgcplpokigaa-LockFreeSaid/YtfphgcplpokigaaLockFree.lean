/-
  LockFree: the walk.
-/
import Derived.Test.YtfphgcplpokigaaLockInherits
namespace Go.Lk
open Go.Proofs.Ytfphgcplpokigaa (wNow rg rg_set lg_set unlockR)
def cost (L : Lk) (m : Nat) : Nat := if lg L.ow m = 255 then 0 else 1 + (rg L.rows m).length
/-- How many givings are left, for the first k mutexes. -/
def phi (L : Lk) : Nat → Nat
  | 0 => 0
  | k + 1 => phi L k + cost L k
theorem phi_same {L K : Lk} : ∀ k, (∀ j, j < k → cost K j = cost L j) → phi K k = phi L k
  | 0, _ => rfl
  | k + 1, h => by show phi K k + cost K k = phi L k + cost L k; rw [phi_same k fun j hj => h j (by omega), h k (by omega)]
theorem phi_down {L K : Lk} {m : Nat} (h1 : cost K m + 1 = cost L m) (h2 : ∀ j, j ≠ m → cost K j = cost L j) : ∀ k, m < k → phi K k + 1 = phi L k
  | 0, h => absurd h (by omega)
  | k + 1, h => by
    show phi K k + cost K k + 1 = phi L k + cost L k
    by_cases e : k = m
    · subst e
      rw [phi_same k fun j hj => h2 j (by omega)]; omega
    · rw [h2 k e]
      have := phi_down h1 h2 k (by omega)
      omega
theorem phi_zero {L : Lk} : ∀ k, phi L k = 0 → ∀ j, j < k → cost L j = 0
  | 0, _, j, hj => absurd hj (by omega)
  | k + 1, h, j, hj => by
    have h' : phi L k + cost L k = 0 := h
    by_cases e : j = k
    · subst e; omega
    · exact phi_zero k (by omega) j (by omega)
theorem cost_le {L : Lk} (hf : Fit L) {m : Nat} (hm : m < L.ow.length) : cost L m ≤ 65 := by
  unfold cost
  split
  · omega
  · have := Go.Proofs.Ytfphgcplpokigaa.rowOk_len (Go.Proofs.Ytfphgcplpokigaa.row_ok hf hm); omega
theorem phi_le {L : Lk} (hf : Fit L) : ∀ k, k ≤ L.ow.length → phi L k ≤ k * 65
  | 0, _ => by simp [phi]
  | k + 1, h => by
    have h1 := phi_le hf k (by omega)
    have h2 := cost_le hf (show k < L.ow.length by omega)
    show phi L k + cost L k ≤ _
    omega
/-- Who has nothing waits at nothing free. -/
theorem free_empty {L : Lk} (hf : Fit L) {m : Nat} (hm : m < L.ow.length) (h : lg L.ow m = 255) : rg L.rows m = [] := by
  by_cases e : rg L.rows m = []
  · exact e
  · obtain ⟨w, hw⟩ := List.exists_mem_of_ne_nil _ e
    obtain ⟨u, rfl, hu, hon, _, hlt⟩ := row_in hf hm hw
    rw [h] at hlt
    have := hf.n
    have h3 : (255 : Int).toNat = 255 := rfl
    omega
/-- Who has a mutex, and waits for none. -/
theorem some_owner {L : Lk} (hf : Fit L) : ∀ (r : Nat) (rk : Nat → Nat) (_ : ∀ t, t < L.own.length → 0 ≤ onAt L t → rk (nx L t) < rk t) (m t : Nat) (_ : m < L.ow.length) (_ : lg L.ow m = t) (_ : t < L.own.length) (_ : rk t ≤ r),
    ∃ m t : Nat, m < L.ow.length ∧ lg L.ow m = t ∧ t < L.own.length ∧ ¬ 0 ≤ onAt L t := by
  intro r
  induction r with
  | zero =>
    intro rk hk m t hm hmt ht hr
    refine ⟨m, t, hm, hmt, ht, fun h => ?_⟩
    have := hk t ht h; omega
  | succ r ih =>
    intro rk hk m t hm hmt ht hr
    by_cases h : 0 ≤ onAt L t
    · have hn := nx_lt hf ht h
      have hl := hk t ht h
      have ho := hf.onr t ht
      obtain ⟨m', hm'⟩ := Int.eq_ofNat_of_zero_le h
      have h1 : m' < L.ow.length ∧ 0 ≤ owAt L m' := by
        rcases ho with e | ⟨_, h2, h3, _⟩
        · omega
        · rw [hm'] at h3; exact ⟨by omega, h3⟩
      have h2 : lg L.ow m' = (nx L t : Nat) := by
        unfold nx; rw [hm']
        show lg L.ow m' = ((lg L.ow m').toNat : Int)
        have h3 : 0 ≤ lg L.ow m' := h1.2
        omega
      exact ih rk hk m' (nx L t) h1.1 h2 hn (by omega)
    · exact ⟨m, t, hm, hmt, ht, h⟩
theorem phi_owner {L : Lk} (hf : Fit L) (h : phi L L.ow.length ≠ 0) : ∃ m t : Nat, m < L.ow.length ∧ lg L.ow m = t ∧ t < L.own.length ∧ ¬ 0 ≤ onAt L t := by
  obtain ⟨rk, hk⟩ := hf.rank
  by_cases hall : ∀ m, m < L.ow.length → lg L.ow m = 255
  · refine absurd ?_ h
    have : ∀ k, k ≤ L.ow.length → phi L k = 0 := by
      intro k
      induction k with
      | zero => intro _; rfl
      | succ k ih =>
        intro hk'
        show phi L k + cost L k = 0
        rw [ih (by omega)]
        unfold cost
        rw [if_pos (hall k (by omega))]
    exact this _ (Nat.le_refl _)
  · obtain ⟨m, hm⟩ := Classical.not_forall.1 hall
    obtain ⟨hm1, hm2⟩ := Classical.not_imp.1 hm
    rcases hf.owr m hm1 with e | ⟨h1, h2⟩
    · exact absurd e hm2
    · have h1' : 0 ≤ lg L.ow m := h1
      have h2' : lg L.ow m < L.own.length := h2
      exact some_owner hf _ rk hk m (lg L.ow m).toNat hm1 (by omega) (by omega) (Nat.le_refl _)
/-- Giving back makes one less. -/
theorem unlock_phi {L : Lk} (hf : Fit L) {t m : Nat} (ht : t < L.own.length) (hm : m < L.ow.length) (ho : lg L.ow m = t) : (unlockR L t m).2.1 = 0 ∧ ∀ now, phi (wNow (unlockR L t m).2.2 now) L.ow.length + 1 = phi L L.ow.length := by
  unfold unlockR
  rw [if_neg (Classical.not_not.2 ⟨by omega, by omega⟩), if_neg (Classical.not_not.2 ⟨by omega, by omega⟩), show Int.toNat (m : Int) = m by omega, if_neg (Classical.not_not.2 ho)]
  have hmr : m < L.rows.length := by rw [hf.lr]; exact hm
  have hc : cost L m = 1 + (rg L.rows m).length := by
    unfold cost; rw [if_neg]; have := hf.n; omega
  by_cases h : rg L.rows m = []
  · rw [if_pos h]
    refine ⟨rfl, fun now => phi_down (m := m) ?_ (fun j hj => ?_) _ hm⟩
    · rw [hc, h]
      show (if lg (L.ow.set m 255) m = 255 then 0 else _) + 1 = _
      rw [lg_set hm, if_pos rfl, if_pos rfl]; rfl
    · show (if lg (L.ow.set m 255) j = 255 then 0 else _) = cost L j
      rw [lg_set hm, if_neg hj]; rfl
  · rw [if_neg h]
    have hb := Go.Proofs.Ytfphgcplpokigaa.best_in L.now _ h
    generalize Go.Proofs.Ytfphgcplpokigaa.bestOf L.now (rg L.rows m) = x at hb ⊢
    obtain ⟨u, rfl, hu, _, _, _⟩ := row_in hf hm hb
    refine ⟨rfl, fun now => phi_down (m := m) ?_ (fun j hj => ?_) _ hm⟩
    · rw [hc]
      show (if lg (L.ow.set m ((u : Int).toNat : Int)) m = 255 then 0 else 1 + (rg (L.rows.set m ((rg L.rows m).erase ((u : Int).toNat : Int))) m).length) + 1 = _
      rw [show ((u : Int)).toNat = u by omega, lg_set hm, if_pos rfl, rg_set hmr, if_pos rfl, if_neg (by have := hf.n; omega), List.length_erase_of_mem hb]
      have := List.length_pos_of_mem hb
      omega
    · show (if lg (L.ow.set m _) j = 255 then 0 else 1 + (rg (L.rows.set m _) j).length) = cost L j
      rw [lg_set hm, if_neg hj, rg_set hmr, if_neg hj]; rfl
theorem all_free {L : Lk} (h : Go.Proofs.Ytfphgcplpokigaa.Good L) (hz : phi L L.ow.length = 0) : (∀ m, m < L.ow.length → lg L.ow m = 255 ∧ rg L.rows m = []) ∧ L.now = L.own := by
  have h1 : ∀ m, m < L.ow.length → lg L.ow m = 255 ∧ rg L.rows m = [] := fun m hm => by
    have hc := phi_zero _ hz m hm
    have e : lg L.ow m = 255 := by
      unfold cost at hc
      split at hc
      · assumption
      · omega
    exact ⟨e, free_empty h.fit hm e⟩
  refine ⟨h1, lg_ext h.fit.ln fun t ht => ?_⟩
  rw [h.fit.ln] at ht
  obtain ⟨s, hs, hr, e⟩ := h.lev.att t ht
  have hst : s = t := by
    by_cases hne : s = t
    · exact hne
    · have ho := (Go.Proofs.Ytfphgcplpokigaa.reach_inv hr hne).1
      rcases h.fit.onr s hs with e | ⟨_, h2, h3, h4⟩
      · omega
      · have := (h1 (onAt L s).toNat (by omega)).1
        have h5 : lg L.ow (onAt L s).toNat < L.own.length := h4
        have := h.fit.n
        omega
  subst hst
  exact e
end Go.Lk
namespace Go.Proofs.Ytfphgcplpokigaa
open Go.RowKit Go.Sx Go.Lk
set_option linter.unusedSimpArgs false
set_option linter.unusedVariables false

set_option maxRecDepth 100000 in
set_option maxHeartbeats 8000000 in
theorem lockFree_walk (v0 : Value) (l : List Int) (M : Int) (v2 : Value) (n : Nat) (f : Nat → Nat → Int) (w0 : World) (h0 : RdN .i64 w0 v0 l) (_z0 : ∀ n ∈ l, (Lit.int .i64 n).wf = true) (_z1 : (Lit.int .i64 M).wf = true) (h2 : RdK [.i64, .i64, .i64] w0 v2 n f) :
    Calls Try.prog 6 #[v0, .int .i64 M, v2] w0 (RetV w0 (.bool true) emp) := by
  have hs := Sat.start w0
  have H0 := hid h0
  go_enter Try.func6, Try.ntmps6
  go_wp2_with fail
  refine (lkAfter _ l M v2 n f w0 _ _ hs h0 h2).mono ?_
  clear h0 h2 _z0 _z1
  rintro en w1 (⟨rfl, hs1⟩ | ⟨b, L, rfl, hg, rfl, rfl, hs1⟩)
  · go_wp2_with fail
    refine (lkAwake w0 _ _ hs1).mono ?_
    rintro en w2 ⟨rfl, hs2⟩
    go_wp2_with fail
    refine (lkAwake w0 _ _ hs2).mono ?_
    rintro en w3 ⟨rfl, hs3⟩
    go_wp2_with fail
    go_ret
    exact ⟨rfl, hs3⟩
  · have Hg := hid hg
    have hm32 := hg.fit.m
    have hn64 := hg.fit.n
    generalize hMn : L.ow.length = Mn at *
    have HM := hid hMn
    clear hg hMn
    go_wp2_with fail
    refine (lkAwake w0 _ _ hs1).mono ?_
    rintro en w2 ⟨rfl, hs2⟩
    clear hs hs1
    go_wp2_with fail
    go_loopw [8, 27] (fun nv i wr => ∃ k N : Nat, k ≤ Mn ∧ N ≤ 2080 ∧ nv = .int .i64 N ∧ i = .int .i64 k ∧ Hid (N = phi L k) ∧ Sat w0 wr (lkP b L * any)) (fun _ i _ => Mn - natOf i)
    case atStart => exact ⟨0, 0, Nat.zero_le _, Nat.zero_le _, rfl, rfl, rfl, own_left⟩
    case round =>
      obtain ⟨k, N, hk, hN, rfl, rfl, hphi, hs3⟩ := hrel
      clear hs2
      by_cases hlt : k < Mn
      · have i1 : (k : Int) < (Mn : Int) := by omega
        have hkl : Hid (k < L.ow.length) := by unfold Hid; rw [HM.out]; exact hlt
        have hoe : Hid (ownerOf L k = lg L.ow k) := by
          show (if _ then _ else _) = _
          rw [if_pos ⟨by omega, by have := hkl.out; omega⟩]; rfl
        have hre : Hid (rowOf L k = rg L.rows k) := by
          show (if _ then _ else _) = _
          rw [if_pos ⟨by omega, by have := hkl.out; omega⟩]; rfl
        have hle : Hid (phi L (k + 1) ≤ 2080) := by
          have := phi_le Hg.out.fit (k + 1) (by have := hkl.out; omega)
          unfold Hid; omega
        go_wp2_with fail
        refine (lkOwner b L k w0 _ _ hs3 Hg.out.fit).mono ?_
        rintro en w4 ⟨rfl, hs4⟩
        rw [hoe.out]
        clear hs3
        by_cases hfr : lg L.ow k = 255
        · have hphi' : Hid (N = phi L (k + 1)) := by
            show N = phi L k + cost L k
            unfold cost; rw [if_pos hfr]; exact hphi.out
          rw [hfr]
          clear hfr hphi
          go_wp2_with fail
          go_roundw
          case rel => exact ⟨k + 1, N, by omega, hN, rfl, by go_num, hphi', hs4⟩
          case measure => simp [natOf, intOf]; omega
        · have d1 : (lg L.ow k != 255) = true := by simp [hfr]
          have hphi' : Hid (N + (1 + (rg L.rows k).length) = phi L (k + 1)) := by
            show _ = phi L k + cost L k
            unfold cost; rw [if_neg hfr, hphi.out]
          have hsum : N + (1 + (rg L.rows k).length) ≤ 2080 := by rw [hphi'.out]; exact hle.out
          clear hfr hphi hle
          go_wp2_with fail
          refine (lkWaiting b L k w0 _ _ hs4 Hg.out.fit).mono ?_
          rintro en w5 ⟨v5, rfl, hs5⟩
          rw [hre.out] at hs5
          obtain ⟨a5, c5, rfl⟩ := hs5.slice_form
          generalize (rg L.rows k).length = rl at *
          clear hs4
          go_wp2_with fail
          go_roundw
          case rel => exact ⟨k + 1, N + (1 + rl), by omega, hsum, by go_num, by go_num, hphi', own_left⟩
          case measure => simp [natOf, intOf]; omega
      · have i1 : ¬ (k : Int) < (Mn : Int) := by omega
        have hN0 : Hid (N = phi L L.ow.length) := by unfold Hid; rw [hphi.out, HM.out, show k = Mn by omega]
        clear hphi
        go_wp2_with fail
        go_loopw [43] (fun i wr => ∃ (j : Nat) (K : Lk), j ≤ N ∧ i = .int .i64 j ∧ Hid (Good K ∧ K.own = L.own ∧ K.ow.length = Mn ∧ phi K Mn + j = N) ∧ Sat w0 wr (lkP b K * any)) (fun i _ => N - natOf i)
        case atStart => exact ⟨0, L, Nat.zero_le _, rfl, ⟨Hg.out, rfl, HM.out, by rw [hN0.out, HM.out]; rfl⟩, hs3⟩
        case round =>
          obtain ⟨j, K, hj, rfl, hK, hs4⟩ := hrel
          clear hs3
          by_cases hjl : j < N
          · have i2 : (j : Int) < (N : Int) := by omega
            go_wp2_with fail
            go_loopw [46] (fun i wr => ∃ q : Nat, q ≤ Mn ∧ i = .int .i64 q ∧ Hid (∀ m, m < q → ∀ t : Nat, lg K.ow m = t → t < K.own.length → 0 ≤ onAt K t) ∧ Sat w0 wr (lkP b K * any)) (fun i _ => Mn - natOf i)
            case atStart => exact ⟨0, Nat.zero_le _, rfl, fun m hm => absurd hm (by omega), hs4⟩
            case round =>
              obtain ⟨q, hq, rfl, hnone, hs5⟩ := hrel
              clear hs4
              by_cases hql : q < Mn
              · have i3 : (q : Int) < (Mn : Int) := by omega
                have hqk : Hid (q < K.ow.length) := by unfold Hid; rw [hK.out.2.2.1]; exact hql
                have hoe : Hid (ownerOf K q = lg K.ow q) := by
                  show (if _ then _ else _) = _
                  rw [if_pos ⟨by omega, by have := hqk.out; omega⟩]; rfl
                go_wp2_with fail
                refine (lkOwner b K q w0 _ _ hs5 hK.out.1.fit).mono ?_
                rintro en w6 ⟨rfl, hs6⟩
                rw [hoe.out]
                clear hs5
                by_cases hfr : lg K.ow q = 255
                · have hnone' : Hid (∀ m, m < q + 1 → ∀ t : Nat, lg K.ow m = t → t < K.own.length → 0 ≤ onAt K t) := fun m hm t h1 h2 => by
                    by_cases e : m = q
                    · subst e
                      have := hK.out.1.fit.n
                      omega
                    · exact hnone.out m (by omega) t h1 h2
                  rw [hfr]
                  clear hfr hnone
                  go_wp2_with fail
                  go_roundw
                  case rel => exact ⟨q + 1, by omega, by go_num, hnone', hs6⟩
                  case measure => simp [natOf, intOf]; omega
                · have h3 : 0 ≤ lg K.ow q ∧ lg K.ow q < K.own.length := (hK.out.1.fit.owr q hqk.out).resolve_left hfr
                  obtain ⟨t, ht⟩ := Int.eq_ofNat_of_zero_le h3.1
                  have htl : Hid (t < K.own.length) := by unfold Hid; omega
                  have d1 : ((t : Int) != 255) = true := by have := hK.out.1.fit.n; simp; omega
                  have Ht := hid ht
                  have hwe : Hid (waitsOf K t = lg K.on t) := by
                    show (if _ then _ else _) = _
                    rw [if_pos ⟨by omega, by have := htl.out; omega⟩]; rfl
                  rw [ht]
                  clear hfr h3 ht
                  go_wp2_with fail
                  refine (lkWaits b K t w0 _ _ hs6 hK.out.1.fit).mono ?_
                  rintro en w7 ⟨rfl, hs7⟩
                  rw [hwe.out]
                  clear hs6
                  by_cases hon : 0 ≤ lg K.on t
                  · have d2 : decide (lg K.on t < 0) = false := by simp; omega
                    have hnone' : Hid (∀ m, m < q + 1 → ∀ t : Nat, lg K.ow m = t → t < K.own.length → 0 ≤ onAt K t) := fun m hm t' h1 h2 => by
                      by_cases e : m = q
                      · subst e
                        rw [Ht.out] at h1
                        obtain rfl : t = t' := by omega
                        exact hon
                      · exact hnone.out m (by omega) t' h1 h2
                    clear hon hnone
                    go_wp2_with fail
                    go_roundw
                    case rel => exact ⟨q + 1, by omega, by go_num, hnone', hs7⟩
                    case measure => simp [natOf, intOf]; omega
                  · have d2 : decide (lg K.on t < 0) = true := by simp; omega
                    have hup := unlock_phi hK.out.1.fit htl.out hqk.out Ht.out
                    have hu0 := hid hup.1
                    have hu1 := hid hup.2
                    have huo := hid (unlockR_own K t q)
                    clear hon hnone hup
                    go_wp2_with fail
                    refine (lkUnlock b K t q w0 _ _ hs7 hK.out.1).mono ?_
                    rintro en w8 ⟨rfl, now', hgk, hs8⟩
                    rw [hu0.out]
                    have hK2 : Hid (Good (wNow (unlockR K t q).2.2 now') ∧ (wNow (unlockR K t q).2.2 now').own = L.own ∧ (wNow (unlockR K t q).2.2 now').ow.length = Mn ∧ phi (wNow (unlockR K t q).2.2 now') Mn + (j + 1) = N) := by
                      have h9 := hu1.out now'
                      rw [hK.out.2.2.1] at h9
                      have h10 := hK.out.2.2.2
                      exact ⟨hgk, huo.out.1.trans hK.out.2.1, huo.out.2.trans hK.out.2.2.1, by omega⟩
                    clear hgk hs7 hu0 hu1
                    generalize (unlockR K t q).1 = rv
                    generalize wNow (unlockR K t q).2.2 now' = K2 at *
                    go_wp2_with fail
                    go_roundw
                    case rel => exact ⟨j + 1, K2, by omega, by go_num, hK2, hs8⟩
                    case measure => simp [natOf, intOf]; omega
              · exfalso
                have hph : phi K K.ow.length ≠ 0 := by
                  have := hK.out.2.2.2
                  rw [hK.out.2.2.1]; omega
                obtain ⟨m, t, h1, h2, h3, h4⟩ := phi_owner hK.out.1.fit hph
                rw [hK.out.2.2.1] at h1
                exact h4 (hnone.out m (by omega) t h2 h3)
          · have i2 : ¬ (j : Int) < (N : Int) := by omega
            have hall : Hid ((∀ m, m < K.ow.length → lg K.ow m = 255 ∧ rg K.rows m = []) ∧ K.now = K.own) := all_free hK.out.1 (by have := hK.out.2.2.2; rw [hK.out.2.2.1]; omega)
            go_wp2_with fail
            go_loopw [72] (fun i wr => ∃ q : Nat, q ≤ Mn ∧ i = .int .i64 q ∧ Sat w0 wr (lkP b K * any)) (fun i _ => Mn - natOf i)
            case atStart => exact ⟨0, Nat.zero_le _, rfl, hs4⟩
            case round =>
              obtain ⟨q, hq, rfl, hs5⟩ := hrel
              clear hs4
              by_cases hql : q < Mn
              · have i3 : (q : Int) < (Mn : Int) := by omega
                have hqk : Hid (q < K.ow.length) := by unfold Hid; rw [hK.out.2.2.1]; exact hql
                have hoe : Hid (ownerOf K q = 255) := by
                  show (if _ then _ else _) = _
                  rw [if_pos ⟨by omega, by have := hqk.out; omega⟩]; exact (hall.out.1 q hqk.out).1
                have hre : Hid (rowOf K q = []) := by
                  show (if _ then _ else _) = _
                  rw [if_pos ⟨by omega, by have := hqk.out; omega⟩]; exact (hall.out.1 q hqk.out).2
                go_wp2_with fail
                refine (lkOwner b K q w0 _ _ hs5 hK.out.1.fit).mono ?_
                rintro en w6 ⟨rfl, hs6⟩
                rw [hoe.out]
                clear hs5
                go_wp2_with fail
                refine (lkWaiting b K q w0 _ _ hs6 hK.out.1.fit).mono ?_
                rintro en w7 ⟨v7, rfl, hs7⟩
                rw [hre.out] at hs7
                obtain ⟨a7, c7, rfl⟩ := hs7.slice_form
                clear hs6
                go_wp2_with fail
                go_roundw
                case rel => exact ⟨q + 1, by omega, by go_num, own_left⟩
                case measure => simp [natOf, intOf]; omega
              · have i3 : ¬ (q : Int) < (Mn : Int) := by omega
                have hno : Hid (K.now = L.own) := hall.out.2.trans hK.out.2.1
                go_wp2_with fail
                refine (lkLevels b K w0 _ _ hs5 hK.out.1.fit).mono ?_
                rintro en w6 ⟨v6, rfl, hs6⟩
                rw [hno.out] at hs6
                obtain ⟨a6, c6, rfl⟩ := hs6.slice_form
                clear hs5
                go_wp2_with fail
                refine (intsS _ _ L.own L.own w0 _ _ hs6 rd (H0.out.later hs6)).mono ?_
                rintro en w7 ⟨rfl, hs7⟩
                rw [decide_eq_true (rfl : L.own = L.own)]
                go_wp2_with fail
                go_ret
                exact ⟨rfl, own_left⟩
end Go.Proofs.Ytfphgcplpokigaa
