/-
  AuditAlone: the plain law and the walk.
-/
import Derived.Test.YtfphgcplpokigaaAuditFront
namespace Go.Au
/-- Who owns mutex m, as it is told by locks and unlocks. -/
def tellO (m : Nat) (o : Int) (e : Ev) : Int := if e.b ≠ m then o else if e.k = 12 then e.a else if e.k = 13 then -1 else o
def badO (m : Nat) (o : Int) (e : Ev) : Bool := decide (e.b = m) && (decide (e.k = 12) && decide (0 ≤ o) || decide (e.k = 13) && decide (o ≠ e.a))
theorem owAt_set {A : Au} {y z : Nat} (hy : y < A.ow.length) (x : Int) : owAt { A with ow := A.ow.set y x } z = if z = y then x else owAt A z := by
  unfold owAt owg
  by_cases h : z = y
  · subst h; rw [if_pos rfl]; simp [List.getD, hy]
  · rw [if_neg h]; simp [List.getD, List.getElem?_set_ne (Ne.symm h)]
theorem owAt_learn {A : Au} (hA : AOk A) (k a b v : Nat) (hok : okN k a b v = true) (z : Nat) :
    owAt (learn A k a b v) z = if z = b ∧ k = 12 then (a : Int) + 1 else if z = b ∧ k = 13 then 0 else owAt A z := by
  by_cases h12 : k = 12
  · subst h12
    have hb : b < 32 := by simp [okN, shp, win] at hok; omega
    rw [show learn A 12 a b v = { A with ow := A.ow.set b ((a : Int) + 1) } from rfl, owAt_set (by rw [hA.lo]; exact hb)]
    simp
  · by_cases h13 : k = 13
    · subst h13
      have hb : b < 32 := by simp [okN, shp, win] at hok; omega
      rw [show learn A 13 a b v = { A with ow := A.ow.set b 0 } from rfl, owAt_set (by rw [hA.lo]; exact hb)]
      simp
    · rw [if_neg (fun h => h12 h.2), if_neg (fun h => h13 h.2)]
      unfold owAt
      congr 1
      unfold learn setT
      repeat' (first | rfl | contradiction | split)
theorem ow0 (m : Nat) : owAt au0 m = 0 := by
  unfold owAt owg
  show ((List.replicate 32 (0 : Int))[m]?).getD 0 = 0
  cases h : (List.replicate 32 (0 : Int))[m]? with
  | none => rfl
  | some x => exact List.eq_of_mem_replicate (List.mem_of_getElem? h)
structure OwOk (A : Au) (m : Nat) (o : Int) : Prop where
  eq : owAt A m = o + 1
  lo : -1 ≤ o
theorem ow_step {A : Au} (hA : AOk A) {e : Ev} {m : Nat} {o : Int} (h : OwOk A m o) (hk : keepsR A e = true) : badO m o e = false ∧ OwOk (stepA A e) m (tellO m o e) := by
  obtain ⟨h1, h2, h3, h4⟩ := okE_nat (keeps_ok hk)
  have hr : rule { A with due := du0 } e.k.toNat e.a e.b e.v (decide (A.due = duOf e)) = true := by
    unfold keepsR at hk
    simp only [Bool.and_eq_true] at hk
    exact hk.2
  have hst : ∀ z, owAt (stepA A e) z = owAt (learn { A with due := du0 } e.k.toNat e.a e.b e.v) z := fun z => rfl
  have hl := owAt_learn hA.noDue e.k.toNat e.a e.b e.v h4 m
  have hd : owAt { A with due := du0 } m = owAt A m := rfl
  rw [hd] at hl
  by_cases hb : e.b = m
  · by_cases k12 : e.k = 12
    · have e12 : e.k.toNat = 12 := by omega
      rw [e12] at hr hl
      have hr' : (decide (owAt A e.b = 0) && (decide (A.due = duOf e) || acts { A with due := du0 } e.a)) = true := hr
      simp only [Bool.and_eq_true, decide_eq_true_eq] at hr'
      rw [if_pos ⟨hb.symm, rfl⟩] at hl
      have h0 := h.eq
      rw [hb] at hr'
      constructor
      · unfold badO; simp [hb, k12]; omega
      · unfold tellO; rw [if_neg (by simp [hb]), if_pos k12]
        refine ⟨?_, by omega⟩
        rw [hst, e12, hl]
    · by_cases k13 : e.k = 13
      · have e13 : e.k.toNat = 13 := by omega
        rw [e13] at hr hl
        have hr' : (decide (owAt A e.b = (e.a : Int) + 1) && (decide ((tkAt A e.a).st = 3) || acts { A with due := du0 } e.a)) = true := hr
        simp only [Bool.and_eq_true, decide_eq_true_eq] at hr'
        rw [if_neg (by simp), if_pos ⟨hb.symm, rfl⟩] at hl
        have h0 := h.eq
        rw [hb] at hr'
        constructor
        · unfold badO; simp [hb, k13]; omega
        · unfold tellO; rw [if_neg (by simp [hb]), if_neg k12, if_pos k13]
          refine ⟨?_, by omega⟩
          rw [hst, e13, hl]; rfl
      · rw [if_neg (fun hh => k12 (by omega)), if_neg (fun hh => k13 (by omega))] at hl
        constructor
        · unfold badO; simp [k12, k13]
        · unfold tellO; rw [if_neg (by simp [hb]), if_neg k12, if_neg k13]
          exact ⟨by rw [hst, hl]; exact h.eq, h.lo⟩
  · rw [if_neg (fun hh => hb hh.1.symm), if_neg (fun hh => hb hh.1.symm)] at hl
    constructor
    · unfold badO; simp [hb]
    · unfold tellO; rw [if_pos hb]
      exact ⟨by rw [hst, hl]; exact h.eq, h.lo⟩
/-- All of these events keep the rules, one behind the other. -/
def Keeps : Au → List Ev → Prop
  | _, [] => True
  | A, e :: l => keepsR A e = true ∧ Keeps (stepA A e) l
theorem keeps_take : ∀ (l : List Ev) (A : Au) (n : Nat), (∀ k, chk A l = some k → n ≤ k) → Keeps A (l.take n)
  | [], A, n, _ => by simp [Keeps]
  | e :: l, A, 0, _ => by simp [Keeps]
  | e :: l, A, n + 1, h => by
    rw [List.take_succ_cons]
    cases hk : keepsR A e with
    | false =>
      have := h 0 (by simp [chk, nxt_no hk])
      omega
    | true =>
      refine ⟨hk, keeps_take l (stepA A e) n fun k h' => ?_⟩
      have := h (k + 1) (by simp [chk, nxt_yes hk, h'])
      omega
/-- As many as keep the rules. -/
def fit (l : List Ev) : Nat := if chkI l < 0 then l.length else (chkI l).toNat
theorem fit_le (l : List Ev) : fit l ≤ l.length := by
  unfold fit
  split
  · omega
  · rcases chkI_range l with h | h <;> omega
theorem fit_keeps (l : List Ev) : Keeps au0 (l.take (fit l)) := by
  refine keeps_take l au0 _ fun k h => ?_
  unfold fit chkI
  rw [h]
  simp only
  rw [if_neg (by omega)]; omega
def After : Au → List Ev → Au := fun A l => l.foldl stepA A
theorem keeps_at : ∀ (l : List Ev) (A : Au) (k : Nat) (_ : Keeps A l) (hk : k < l.length), keepsR (After A (l.take k)) l[k] = true
  | [], A, k, _, hk => by simp at hk
  | e :: l, A, 0, h, _ => h.1
  | e :: l, A, k + 1, h, hk => keeps_at l (stepA A e) k h.2 (by simpa using hk)
theorem after_next {l : List Ev} {A : Au} {k : Nat} (hk : k < l.length) : After A (l.take (k + 1)) = stepA (After A (l.take k)) l[k] := by
  unfold After
  rw [List.take_succ_eq_append_getElem hk, List.foldl_append]; rfl
end Go.Au
namespace Go.Au
theorem keeps_ok_at : ∀ (l : List Ev) (A : Au), AOk A → (∀ e ∈ l, EvOk e) → Keeps A l → AOk (After A l)
  | [], A, h, _, _ => h
  | e :: l, A, h, he, hk => keeps_ok_at l (stepA A e) (aok_step h (he e (by simp)) hk.1) (fun x hx => he x (by simp [hx])) hk.2
theorem keeps_front : ∀ (l : List Ev) (A : Au) (k : Nat), Keeps A l → Keeps A (l.take k)
  | [], A, k, h => by simp [Keeps]
  | e :: l, A, 0, h => by simp [Keeps]
  | e :: l, A, k + 1, h => by rw [List.take_succ_cons]; exact ⟨h.1, keeps_front l (stepA A e) k h.2⟩
end Go.Au
namespace Go.Proofs.Ytfphgcplpokigaa
open Go.RowKit Go.Sx Go.Au
set_option linter.unusedSimpArgs false
set_option linter.unusedVariables false

theorem ev_at {wr : World} {a : Option Addr} {n c : Nat} {l : List Ev} {k : Nat} (h : RdR wr (.slice a n c) l) (hlt : k < l.length) :
    ∃ g off, a = some ⟨g, off, none⟩ ∧ wr.cell? ⟨g, off + k * 6, none⟩ = some (.int .i64 l[k].k) ∧ wr.cell? ⟨g, off + k * 6 + 1, none⟩ = some (.int .u64 l[k].cy) ∧ wr.cell? ⟨g, off + k * 6 + 2, none⟩ = some (.int .u64 l[k].co)
      ∧ wr.cell? ⟨g, off + k * 6 + 3, none⟩ = some (.int .u32 l[k].a) ∧ wr.cell? ⟨g, off + k * 6 + 4, none⟩ = some (.int .u32 l[k].b) ∧ wr.cell? ⟨g, off + k * 6 + 5, none⟩ = some (.int .u32 l[k].v) := by
  obtain ⟨a2, cap2, g, off2, e, h3, h4, h5, h6⟩ := h
  simp only [Value.slice.injEq] at e
  obtain ⟨rfl, _, rfl⟩ := e
  obtain rfl := h5 (by rintro rfl; simp at hlt)
  have hcell : ∀ c, c < 6 → wr.cell? ⟨g, off2 + k * 6 + c, none⟩ = (evCells l[k])[c]? := fun c hc => by
    have h7 := cellsOf_at (E := encEv) (l := l) (k := k) (c := c) hlt hc
    have h8 : l.getD k encEv.dft = l[k] := by simp [List.getD, hlt]
    rw [h8] at h7
    have h9 : c < (evCells l[k]).length := hc
    rw [List.getElem?_eq_getElem h9]
    rw [Nat.add_assoc]
    refine h6 _ _ (h7.trans ?_)
    exact List.getElem?_eq_getElem h9
  exact ⟨g, off2, rfl, hcell 0 (by decide), hcell 1 (by decide), hcell 2 (by decide), hcell 3 (by decide), hcell 4 (by decide), hcell 5 (by decide)⟩

set_option maxRecDepth 100000 in
set_option maxHeartbeats 8000000 in
theorem auditAlone_walk (v0 : Value) (mu : Int) (l : List Ev) (w0 : World) (h0 : RdR w0 v0 l) (e0 : ∀ e ∈ l, EvOk e) (z : (Lit.int .u32 mu).wf = true) :
    Calls Try.prog 17 #[v0, .int .u32 mu] w0 (RetV w0 (.bool true) emp) := by
  have hz : (decide ((0 : Int) ≤ mu) && decide (mu ≤ 4294967295)) = true := z
  simp only [Bool.and_eq_true, decide_eq_true_eq] at hz
  obtain ⟨m, rfl⟩ := Int.eq_ofNat_of_zero_le hz.1
  have hs := Sat.start w0
  haveI : OldRec w0 encEv v0 l := ⟨h0⟩
  obtain ⟨a0, c0, b0, o0, rfl, k1, k2, _, _⟩ := h0
  unfold maxLen at k2
  have E0 := hid e0
  clear e0 z hz
  by_cases g0 : 1000 < l.length
  · have d0 : decide ((1000 : Int) < (l.length : Int)) = true := by simp; omega
    go_enter Try.func17, Try.ntmps17
    go_wp2_with fail
    refine (auAwake w0 _ _ own_it).mono ?_
    rintro e w1 ⟨rfl, hs1⟩
    go_wp2_with fail
    refine (auAwake w0 _ _ hs1).mono ?_
    rintro e w2 ⟨rfl, hs2⟩
    go_wp2_with fail
    go_ret
    exact ⟨rfl, own_left⟩
  · have d0 : decide ((1000 : Int) < (l.length : Int)) = false := by simp; omega
    go_enter Try.func17, Try.ntmps17
    go_wp2_with fail
    refine (auAwake w0 _ _ own_it).mono ?_
    rintro e w1 ⟨rfl, hs1⟩
    go_wp2_with fail
    refine (auCheck _ l (by omega) E0.out w0 _ _ hs1 (staysE_old rdr)).mono ?_
    rintro e w2 ⟨rfl, hs2⟩
    have Hfk := hid (fit_keeps l)
    have hfl := fit_le l
    generalize hN : fit l = N at *
    have hcn : chkI l < 0 ∧ N = l.length ∨ chkI l = N := by
      unfold fit at hN
      split at hN <;> omega
    clear hN
    generalize chkI l = c at *
    have Hsplit := hid hcn
    clear hcn
    by_cases hc : c < 0
    all_goals
      first
        | (have d1 : decide (c < 0) = true := by simp; omega
           obtain rfl : N = l.length := by have := Hsplit.out; omega
           have d2 : decide ((l.length : Int) < (l.length : Int)) = false := by simp)
        | (have d1 : decide (c < 0) = false := by simp; omega
           obtain rfl : c = (N : Int) := by have := Hsplit.out; omega
           have d2 : decide ((l.length : Int) < (N : Int)) = false := by simp; omega)
      clear hc Hsplit
      go_wp2_with (first | (at_builtin; refine wpList_append_recs rfl rfl rfl rfl (by omega) ?_; intro ap ac aL aw ahL ah1 ah2 ahs _) | (refine wpList_sliceR_from rfl rfl rfl rfl (by omega) (by omega) ?_; intro px pc pL php phL ph1 ph2) | (refine wpList_sliceR_to rfl rfl rfl rfl (by omega) (by omega) ?_; intro px pc pL php phL ph1 ph2))
      have HE : Hid (∀ e ∈ pL, EvOk e) := by
        unfold Hid
        rw [phL.out]
        exact fun e he => E0.out e (List.mem_of_mem_take he)
      have HK : Hid (Keeps au0 pL) := by
        unfold Hid
        rw [phL.out]
        simpa using Hfk.out
      have hlp : pL.length ≤ 1000 := by omega
      clear Hfk phL ph1 ph2 d1 d2
      go_loopw [31, 6] (fun i ov wr => ∃ (k : Nat) (o : Int), k ≤ pL.length ∧ i = .int .i64 k ∧ ov = .int .i64 o ∧ OwOk (After au0 (pL.take k)) m o ∧ Sat w0 wr any) (fun i _ _ => pL.length - (intOf i).toNat)
      case atStart => exact ⟨0, -1, Nat.zero_le _, rfl, rfl, ⟨by rw [List.take_zero]; exact ow0 m, by omega⟩, own_left⟩
      case round =>
        obtain ⟨k, o, hk, rfl, rfl, how, hs3⟩ := hrel
        clear hs2
        by_cases hlt : k < pL.length
        · have hin : pL[k] ∈ pL := List.getElem_mem hlt
          obtain ⟨g, off, rfl, q0, q1, q2, q3, q4, q5⟩ := ev_at (wr := wr) (a := px) (n := pL.length) (c := pc) (l := pL) (k := k) rdr hlt
          have hkk := keeps_at pL au0 k HK.out hlt
          have hak := keeps_ok_at (pL.take k) au0 aok0 (fun e he => HE.out e (List.mem_of_mem_take he)) (keeps_front pL au0 k HK.out)
          have hst := ow_step hak how hkk
          have Hst := hid (after_next (A := au0) hlt)
          have hlo := how.lo
          have hea := (HE.out _ hin).a
          clear hin how hak hkk
          generalize hle : pL[k] = e at *
          obtain ⟨ek, ecy, eco, ea, eb, ev⟩ := e
          dsimp only at q0 q1 q2 q3 q4 q5 hea
          have Hbad := hid hst.1
          have Hnext := hid hst.2
          rw [← Hst.out] at Hnext
          unfold tellO at Hnext
          unfold badO at Hbad
          dsimp only at Hnext Hbad
          clear hst Hst hle
          have hI : (k : Int) < (pL.length : Int) := by omega
          have i3 : decide ((k : Int) < (pL.length : Int)) = true := by simp; omega
          by_cases hb : eb = m
          · have f1 : ((eb : Int) != (m : Int)) = false := by simp [hb]
            rw [if_neg (by simp [hb])] at Hnext
            rw [decide_eq_true hb, Bool.true_and] at Hbad
            clear hb
            by_cases k12 : ek = 12
            · subst k12
              rw [if_pos rfl] at Hnext
              have f2 : decide (0 ≤ o) = false := by
                have := Hbad.out; simp at this; simp; omega
              clear Hbad
              go_wp2_with fail
              go_roundw
              case rel => exact ⟨k + 1, ea, by omega, by go_num, rfl, Hnext.out, own_left⟩
              case measure => simp [intOf]; omega
            · have f2 : (ek == 12) = false := by simp [k12]
              rw [if_neg k12] at Hnext
              by_cases k13 : ek = 13
              · subst k13
                rw [if_pos rfl] at Hnext
                obtain rfl : o = (ea : Int) := by
                  have := Hbad.out; simp at this; exact this
                clear Hbad k12
                go_wp2_with fail
                go_roundw
                case rel => exact ⟨k + 1, -1, by omega, by go_num, rfl, Hnext.out, own_left⟩
                case measure => simp [intOf]; omega
              · have f3 : (ek == 13) = false := by simp [k13]
                rw [if_neg k13] at Hnext
                clear Hbad k12 k13
                go_wp2_with fail
                go_roundw
                case rel => exact ⟨k + 1, o, by omega, by go_num, rfl, Hnext.out, own_left⟩
                case measure => simp [intOf]; omega
          · have f1 : ((eb : Int) != (m : Int)) = true := by simp; omega
            rw [if_pos hb] at Hnext
            clear hb Hbad
            go_wp2_with fail
            go_roundw
            case rel => exact ⟨k + 1, o, by omega, by go_num, rfl, Hnext.out, own_left⟩
            case measure => simp [intOf]; omega
        · have hI : ¬ (k : Int) < (pL.length : Int) := by omega
          go_wp2_with fail
          go_ret
          exact ⟨rfl, own_left⟩
end Go.Proofs.Ytfphgcplpokigaa
