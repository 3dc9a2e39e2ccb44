/-
  AuditJobs: the plain law and the walk.
-/
import Derived.Test.YtfphgcplpokigaaAuditAlone
namespace Go.Au
set_option linter.unusedSimpArgs false
set_option linter.unusedVariables false
/-- A task's job, and whether it is open, as releases and ends tell. -/
def tellJ (x : Nat) (s : Nat × Bool) (e : Ev) : Nat × Bool := if e.a ≠ x then s else if e.k = 6 then (e.v, true) else if e.k = 8 then (s.1, false) else s
def badJ (x : Nat) (s : Nat × Bool) (e : Ev) : Bool := decide (e.a = x) && (decide (e.k = 6) && (s.2 || decide (e.v ≠ (s.1 + 1) % 4294967296)) || decide (e.k = 8) && (!s.2 || decide (e.v ≠ s.1)))
structure JbOk (A : Au) (x : Nat) (s : Nat × Bool) : Prop where
  job : x < 64 → (tkAt A x).job = s.1
  opn : x < 64 → s.2 = decide ((tkAt A x).st ≠ 0)
theorem tkAt_set {A : Au} {y z : Nat} (hy : y < A.ts.length) (t : Tk) : tkAt (setT A y t) z = if z = y then t else tkAt A z := by
  unfold tkAt tkg setT
  by_cases h : z = y
  · subst h; rw [if_pos rfl]; simp [List.getD, hy]
  · rw [if_neg h]; simp [List.getD, List.getElem?_set_ne (Ne.symm h)]
theorem acts_st {A : Au} {x : Nat} (hx : x < 64) (h : acts A x = true) : (tkAt A x).st = 1 := by
  unfold acts at h
  rw [if_pos hx] at h
  simp only [Bool.and_eq_true, decide_eq_true_eq] at h
  exact h.2
theorem tk_other {A : Au} (hA : AOk A) (k a b v : Nat) (hk : 1 ≤ k ∧ k ≤ 24) (hok : okN k a b v = true) {x : Nat} (hx : x ≠ a) : tkAt (learn A k a b v) x = tkAt A x := by
  have hl := hA.lt
  have hk' : k = 1 ∨ k = 2 ∨ k = 3 ∨ k = 4 ∨ k = 5 ∨ k = 6 ∨ k = 7 ∨ k = 8 ∨ k = 9 ∨ k = 10 ∨ k = 11 ∨ k = 12 ∨ k = 13 ∨ k = 14 ∨ k = 15 ∨ k = 16 ∨ k = 17 ∨ k = 18 ∨ k = 19 ∨ k = 20 ∨ k = 21 ∨ k = 22 ∨ k = 23 ∨ k = 24 := by omega
  have set : ∀ t, a < 64 → tkAt (setT A a t) x = tkAt A x := fun t h => by rw [tkAt_set (by omega), if_neg hx]
  rcases hk' with rfl | rfl | rfl | rfl | rfl | rfl | rfl | rfl | rfl | rfl | rfl | rfl | rfl | rfl | rfl | rfl | rfl | rfl | rfl | rfl | rfl | rfl | rfl | rfl
  all_goals
    first
      | rfl
      | (have ha : a < 64 := by simp [okN, shp, win] at hok; omega
         exact set _ ha)
      | (by_cases ha : a < 64
         · have := set { tkAt A a with st := 3 } ha
           simp only [learn, if_pos ha]; exact this
         · simp only [learn, if_neg ha]; rfl)
theorem tk_job {A : Au} (hA : AOk A) (k a b v : Nat) (hk : 1 ≤ k ∧ k ≤ 24) (hok : okN k a b v = true) : (tkAt (learn A k a b v) a).job = if k = 6 then v else (tkAt A a).job := by
  have hl := hA.lt
  have hk' : k = 1 ∨ k = 2 ∨ k = 3 ∨ k = 4 ∨ k = 5 ∨ k = 6 ∨ k = 7 ∨ k = 8 ∨ k = 9 ∨ k = 10 ∨ k = 11 ∨ k = 12 ∨ k = 13 ∨ k = 14 ∨ k = 15 ∨ k = 16 ∨ k = 17 ∨ k = 18 ∨ k = 19 ∨ k = 20 ∨ k = 21 ∨ k = 22 ∨ k = 23 ∨ k = 24 := by omega
  have set : ∀ t, a < 64 → tkAt (setT A a t) a = t := fun t h => by rw [tkAt_set (by omega), if_pos rfl]
  rcases hk' with rfl | rfl | rfl | rfl | rfl | rfl | rfl | rfl | rfl | rfl | rfl | rfl | rfl | rfl | rfl | rfl | rfl | rfl | rfl | rfl | rfl | rfl | rfl | rfl
  all_goals
    first
      | rfl
      | (have ha : a < 64 := by simp [okN, shp, win] at hok; omega
         show (tkAt (setT A a _) a).job = _
         rw [set _ ha]
         done)
      | (have ha : a < 64 := by simp [okN, shp, win] at hok; omega
         show (tkAt (setT A a _) a).job = _
         rw [set _ ha]
         rfl)
      | (by_cases ha : a < 64
         · have := congrArg Tk.job (set { tkAt A a with st := 3 } ha)
           simp only [learn, if_pos ha]; exact this
         · simp only [learn, if_neg ha]; rfl)
def stB (k : Nat) (old : Int) : Int := match k with
  | 6 => 1
  | 8 => 0
  | 9 => 2
  | 10 => 1
  | 21 => 3
  | 22 => 3
  | _ => old
theorem tk_st {A : Au} (hA : AOk A) (k a b v : Nat) (hk : 1 ≤ k ∧ k ≤ 24) (hok : okN k a b v = true) (ha : a < 64) : (tkAt (learn A k a b v) a).st = stB k (tkAt A a).st := by
  have hl := hA.lt
  have hk' : k = 1 ∨ k = 2 ∨ k = 3 ∨ k = 4 ∨ k = 5 ∨ k = 6 ∨ k = 7 ∨ k = 8 ∨ k = 9 ∨ k = 10 ∨ k = 11 ∨ k = 12 ∨ k = 13 ∨ k = 14 ∨ k = 15 ∨ k = 16 ∨ k = 17 ∨ k = 18 ∨ k = 19 ∨ k = 20 ∨ k = 21 ∨ k = 22 ∨ k = 23 ∨ k = 24 := by omega
  have set : ∀ t, tkAt (setT A a t) a = t := fun t => by rw [tkAt_set (by omega), if_pos rfl]
  rcases hk' with rfl | rfl | rfl | rfl | rfl | rfl | rfl | rfl | rfl | rfl | rfl | rfl | rfl | rfl | rfl | rfl | rfl | rfl | rfl | rfl | rfl | rfl | rfl | rfl
  all_goals
    first
      | rfl
      | (show (tkAt (setT A a _) a).st = _
         rw [set _]
         done)
      | (show (tkAt (setT A a _) a).st = _
         rw [set _]
         rfl)
      | (have := congrArg Tk.st (set { tkAt A a with st := 3 })
         simp only [learn, if_pos ha]; exact this)
theorem rule_st {A : Au} (k a b v : Nat) (had : Bool) (hk : 1 ≤ k ∧ k ≤ 24) (hr : rule A k a b v had = true) (ha : a < 64) : (k = 6 → (tkAt A a).st = 0) ∧ (k = 8 ∨ k = 9 ∨ k = 21 ∨ k = 22 → (tkAt A a).st = 1) ∧ (k = 10 → (tkAt A a).st = 2) := by
  refine ⟨?_, ?_, ?_⟩
  · rintro rfl
    rw [show rule A 6 a b v had = (decide ((tkAt A a).st = 0) && decide (v = ((tkAt A a).job + 1) % 4294967296)) from rfl] at hr
    simp only [Bool.and_eq_true, decide_eq_true_eq] at hr
    exact hr.1
  · rintro (rfl | rfl | rfl | rfl)
    · rw [show rule A 8 a b v had = (acts A a && decide (v = (tkAt A a).job)) from rfl, Bool.and_eq_true] at hr
      exact acts_st ha hr.1
    · rw [show rule A 9 a b v had = (acts A a && (!isMu b || decide (owAt A (b - 32) ≠ 0) && decide (owAt A (b - 32) ≠ (a : Int) + 1))) from rfl, Bool.and_eq_true] at hr
      exact acts_st ha hr.1
    · exact acts_st ha hr
    · exact acts_st ha hr
  · rintro rfl
    rw [show rule A 10 a b v had = (decide ((tkAt A a).st = 2) && (if (tkAt A a).on = 0 then decide (b = 0) else !isMu (tkAt A a).on || decide (b = 1) && decide (owAt A ((tkAt A a).on - 32) = 0))) from rfl, Bool.and_eq_true, decide_eq_true_eq] at hr
    exact hr.1
theorem jb_step {A : Au} (hA : AOk A) {e : Ev} (he : e.v < 4294967296) {x : Nat} {s : Nat × Bool} (h : JbOk A x s) (hk : keepsR A e = true) : badJ x s e = false ∧ JbOk (stepA A e) x (tellJ x s e) := by
  obtain ⟨h1, h2, h3, h4⟩ := okE_nat (keeps_ok hk)
  have hr : rule { A with due := du0 } e.k.toNat e.a e.b e.v (decide (A.due = duOf e)) = true := by
    unfold keepsR at hk
    simp only [Bool.and_eq_true] at hk
    exact hk.2
  have hst : ∀ z, tkAt (stepA A e) z = tkAt (learn { A with due := du0 } e.k.toNat e.a e.b e.v) z := fun z => rfl
  have hd : ∀ z, tkAt { A with due := du0 } z = tkAt A z := fun z => rfl
  by_cases hx : e.a = x
  · by_cases hlt : x < 64
    · have ha : e.a < 64 := by omega
      have q1 := rule_st e.k.toNat e.a e.b e.v _ ⟨h1, h2⟩ hr ha
      have q2 := tk_st hA.noDue e.k.toNat e.a e.b e.v ⟨h1, h2⟩ h4 ha
      have q3 := tk_job hA.noDue e.k.toNat e.a e.b e.v ⟨h1, h2⟩ h4
      rw [hd] at q1 q2 q3
      rw [← hst] at q2 q3
      rw [hx] at q1 q2 q3
      have hj := h.job hlt
      have ho := h.opn hlt
      by_cases k6 : e.k = 6
      · have k6' : e.k.toNat = 6 := by omega
        have hs0 := q1.1 k6'
        rw [k6'] at q2 q3 hr
        rw [hs0] at ho
        have hr2 : (decide ((tkAt A e.a).st = 0) && decide (e.v = ((tkAt A e.a).job + 1) % 4294967296)) = true := hr
        simp only [Bool.and_eq_true, decide_eq_true_eq] at hr2
        rw [hx, hj] at hr2
        constructor
        · unfold badJ; simp [hx, k6, ho, hr2.2]
        · unfold tellJ; rw [if_neg (by simp [hx]), if_pos k6]
          exact ⟨fun _ => q3, fun _ => by rw [q2]; rfl⟩
      · by_cases k8 : e.k = 8
        · have k8' : e.k.toNat = 8 := by omega
          have hs0 := q1.2.1 (.inl k8')
          rw [k8'] at q2 q3 hr
          rw [hs0] at ho
          have hr2 : (acts { A with due := du0 } e.a && decide (e.v = (tkAt A e.a).job)) = true := hr
          simp only [Bool.and_eq_true, decide_eq_true_eq] at hr2
          rw [hx, hj] at hr2
          constructor
          · unfold badJ; simp [hx, k8, ho, hr2.2]
          · unfold tellJ; rw [if_neg (by simp [hx]), if_neg k6, if_pos k8]
            exact ⟨fun _ => by rw [q3]; exact hj, fun _ => by rw [q2]; rfl⟩
        · constructor
          · unfold badJ; simp [k6, k8]
          · unfold tellJ; rw [if_neg (by simp [hx]), if_neg k6, if_neg k8]
            rw [if_neg (by omega)] at q3
            refine ⟨fun _ => by rw [q3]; exact hj, fun _ => ?_⟩
            rw [q2, ho]
            by_cases k9 : e.k.toNat = 9
            · rw [q1.2.1 (.inr (.inl k9)), k9]; rfl
            · by_cases k10 : e.k.toNat = 10
              · rw [q1.2.2 k10, k10]; rfl
              · by_cases k21 : e.k.toNat = 21
                · rw [q1.2.1 (.inr (.inr (.inl k21))), k21]; rfl
                · by_cases k22 : e.k.toNat = 22
                  · rw [q1.2.1 (.inr (.inr (.inr k22))), k22]; rfl
                  · have : ∀ o, stB e.k.toNat o = o := fun o => by
                      unfold stB
                      split <;> first | rfl | omega
                    rw [this]
    · have hb : badJ x s e = false := by
        unfold badJ
        by_cases k6 : e.k = 6
        · have k6' : e.k.toNat = 6 := by omega
          rw [k6'] at h4
          have : e.a < 64 := by simp [okN, shp, win] at h4; omega
          omega
        · by_cases k8 : e.k = 8
          · have k8' : e.k.toNat = 8 := by omega
            rw [k8'] at h4
            have : e.a < 64 := by simp [okN, shp, win] at h4; omega
            omega
          · simp [k6, k8]
      exact ⟨hb, fun h => absurd h hlt, fun h => absurd h hlt⟩
  · have hb : badJ x s e = false := by unfold badJ; simp [hx]
    refine ⟨hb, ?_⟩
    unfold tellJ
    rw [if_pos hx]
    have q := tk_other hA.noDue e.k.toNat e.a e.b e.v ⟨h1, h2⟩ h4 (x := x) (fun hh => hx hh.symm)
    rw [hd, ← hst] at q
    exact ⟨fun hl => by rw [q]; exact h.job hl, fun hl => by rw [q]; exact h.opn hl⟩
theorem jb0 (x : Nat) : JbOk au0 x (0, false) := by
  have h : tkAt au0 x = tk0 := by
    unfold tkAt tkg
    show ((List.replicate 64 tk0)[x]?).getD tk0 = tk0
    cases h : (List.replicate 64 tk0)[x]? with
    | none => rfl
    | some t => exact List.eq_of_mem_replicate (List.mem_of_getElem? h)
  exact ⟨fun _ => by rw [h]; rfl, fun _ => by rw [h]; rfl⟩
end Go.Au
namespace Go.Proofs.Ytfphgcplpokigaa
open Go.RowKit Go.Sx Go.Au
set_option linter.unusedSimpArgs false
set_option linter.unusedVariables false

set_option maxRecDepth 100000 in
set_option maxHeartbeats 8000000 in
theorem auditJobs_walk (v0 : Value) (mu : Int) (l : List Ev) (w0 : World) (h0 : RdR w0 v0 l) (e0 : ∀ e ∈ l, EvOk e) (z : (Lit.int .u32 mu).wf = true) :
    Calls Try.prog 18 #[v0, .int .u32 mu] w0 (RetV w0 (.bool true) emp) := by
  have hz : (decide ((0 : Int) ≤ mu) && decide (mu ≤ 4294967295)) = true := z
  simp only [Bool.and_eq_true, decide_eq_true_eq] at hz
  obtain ⟨m, rfl⟩ := Int.eq_ofNat_of_zero_le hz.1
  have hs := Sat.start w0
  haveI : OldRec w0 encEv v0 l := ⟨h0⟩
  obtain ⟨a0, c0, b0, o0, rfl, k1, k2, _, _⟩ := h0
  unfold maxLen at k2
  have E0 := hid e0
  clear e0 z hz
  by_cases g0 : 1000 < l.length
  · have d0 : decide ((1000 : Int) < (l.length : Int)) = true := by simp; omega
    go_enter Try.func18, Try.ntmps18
    go_wp2_with fail
    refine (auAwake w0 _ _ own_it).mono ?_
    rintro e w1 ⟨rfl, hs1⟩
    go_wp2_with fail
    refine (auAwake w0 _ _ hs1).mono ?_
    rintro e w2 ⟨rfl, hs2⟩
    go_wp2_with fail
    go_ret
    exact ⟨rfl, own_left⟩
  · have d0 : decide ((1000 : Int) < (l.length : Int)) = false := by simp; omega
    go_enter Try.func18, Try.ntmps18
    go_wp2_with fail
    refine (auAwake w0 _ _ own_it).mono ?_
    rintro e w1 ⟨rfl, hs1⟩
    go_wp2_with fail
    refine (auCheck _ l (by omega) E0.out w0 _ _ hs1 (staysE_old rdr)).mono ?_
    rintro e w2 ⟨rfl, hs2⟩
    have Hfk := hid (fit_keeps l)
    have hfl := fit_le l
    generalize hN : fit l = N at *
    have hcn : chkI l < 0 ∧ N = l.length ∨ chkI l = N := by
      unfold fit at hN
      split at hN <;> omega
    clear hN
    generalize chkI l = c at *
    have Hsplit := hid hcn
    clear hcn
    by_cases hc : c < 0
    all_goals
      first
        | (have d1 : decide (c < 0) = true := by simp; omega
           obtain rfl : N = l.length := by have := Hsplit.out; omega
           have d2 : decide ((l.length : Int) < (l.length : Int)) = false := by simp)
        | (have d1 : decide (c < 0) = false := by simp; omega
           obtain rfl : c = (N : Int) := by have := Hsplit.out; omega
           have d2 : decide ((l.length : Int) < (N : Int)) = false := by simp; omega)
      clear hc Hsplit
      go_wp2_with (first | (at_builtin; refine wpList_append_recs rfl rfl rfl rfl (by omega) ?_; intro ap ac aL aw ahL ah1 ah2 ahs _) | (refine wpList_sliceR_from rfl rfl rfl rfl (by omega) (by omega) ?_; intro px pc pL php phL ph1 ph2) | (refine wpList_sliceR_to rfl rfl rfl rfl (by omega) (by omega) ?_; intro px pc pL php phL ph1 ph2))
      have HE : Hid (∀ e ∈ pL, EvOk e) := by
        unfold Hid
        rw [phL.out]
        exact fun e he => E0.out e (List.mem_of_mem_take he)
      have HK : Hid (Keeps au0 pL) := by
        unfold Hid
        rw [phL.out]
        simpa using Hfk.out
      have hlp : pL.length ≤ 1000 := by omega
      clear Hfk phL ph1 ph2 d1 d2
      go_loopw [32, 6, 7] (fun i jv ov wr => ∃ (k : Nat) (j : Nat) (o : Bool), k ≤ pL.length ∧ i = .int .i64 k ∧ jv = .int .u32 j ∧ ov = .bool o ∧ j < 4294967296 ∧ JbOk (After au0 (pL.take k)) m (j, o) ∧ Sat w0 wr any) (fun i _ _ _ => pL.length - (intOf i).toNat)
      case atStart => exact ⟨0, 0, false, Nat.zero_le _, rfl, rfl, rfl, by decide, by rw [List.take_zero]; exact jb0 m, own_left⟩
      case round =>
        obtain ⟨k, j, o, hk, rfl, rfl, rfl, hj, how, hs3⟩ := hrel
        clear hs2
        by_cases hlt : k < pL.length
        · have hin : pL[k] ∈ pL := List.getElem_mem hlt
          obtain ⟨g, off, rfl, q0, q1, q2, q3, q4, q5⟩ := ev_at (wr := wr) (a := px) (n := pL.length) (c := pc) (l := pL) (k := k) rdr hlt
          have hkk := keeps_at pL au0 k HK.out hlt
          have hak := keeps_ok_at (pL.take k) au0 aok0 (fun e he => HE.out e (List.mem_of_mem_take he)) (keeps_front pL au0 k HK.out)
          have hev := (HE.out _ hin).v
          have hst := jb_step hak hev how hkk
          have Hst := hid (after_next (A := au0) hlt)
          clear hin how hak hkk
          generalize hle : pL[k] = e at *
          obtain ⟨ek, ecy, eco, ea, eb, ev⟩ := e
          dsimp only at q0 q1 q2 q3 q4 q5 hev
          have Hbad := hid hst.1
          have Hnext := hid hst.2
          rw [← Hst.out] at Hnext
          unfold tellJ at Hnext
          unfold badJ at Hbad
          dsimp only at Hnext Hbad
          clear hst Hst hle
          have hI : (k : Int) < (pL.length : Int) := by omega
          have i3 : decide ((k : Int) < (pL.length : Int)) = true := by simp; omega
          by_cases hb : ea = m
          · have f1 : ((ea : Int) != (m : Int)) = false := by simp [hb]
            rw [if_neg (by simp [hb])] at Hnext
            rw [decide_eq_true hb, Bool.true_and] at Hbad
            clear hb
            by_cases k6 : ek = 6
            · subst k6
              rw [if_pos rfl] at Hnext
              have hbb := Hbad.out
              simp at hbb
              obtain ⟨rfl, hb2⟩ := hbb
              have f2 : ((ev : Int) != ((j : Int) + 1) % 4294967296) = false := by simp; omega
              clear Hbad hb2
              go_wp2_with fail
              go_roundw
              case rel => exact ⟨k + 1, ev, true, by omega, by go_num, rfl, rfl, hev, Hnext.out, own_left⟩
              case measure => simp [intOf]; omega
            · have f2 : (ek == 6) = false := by simp [k6]
              rw [if_neg k6] at Hnext
              by_cases k8 : ek = 8
              · subst k8
                rw [if_pos rfl] at Hnext
                have hbb := Hbad.out
                simp at hbb
                obtain ⟨rfl, rfl⟩ := hbb
                clear Hbad k6
                go_wp2_with fail
                go_roundw
                case rel => exact ⟨k + 1, ev, false, by omega, by go_num, rfl, rfl, hev, Hnext.out, own_left⟩
                case measure => simp [intOf]; omega
              · have f3 : (ek == 8) = false := by simp [k8]
                rw [if_neg k8] at Hnext
                clear Hbad k6 k8
                go_wp2_with fail
                go_roundw
                case rel => exact ⟨k + 1, j, o, by omega, by go_num, rfl, rfl, hj, Hnext.out, own_left⟩
                case measure => simp [intOf]; omega
          · have f1 : ((ea : Int) != (m : Int)) = true := by simp; omega
            rw [if_pos hb] at Hnext
            clear hb Hbad
            go_wp2_with fail
            go_roundw
            case rel => exact ⟨k + 1, j, o, by omega, by go_num, rfl, rfl, hj, Hnext.out, own_left⟩
            case measure => simp [intOf]; omega
        · have hI : ¬ (k : Int) < (pL.length : Int) := by omega
          go_wp2_with fail
          go_ret
          exact ⟨rfl, own_left⟩
end Go.Proofs.Ytfphgcplpokigaa
