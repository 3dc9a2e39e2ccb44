/-
  The reference's locks: the contracts of what only reads: Waits, closes, Held, Levels.
-/
import Derived.Test.YtfphgcplpokigaaLockR
namespace Go.Proofs.Ytfphgcplpokigaa
open Go.RowKit Go.Sx Go.Lk
set_option linter.unusedSimpArgs false
set_option linter.unusedVariables false

theorem idxMem {l : List Int} {t : Int} (h : t ∈ l) : idx l t = (l.idxOf t : Int) := by unfold idx; rw [if_pos h]
theorem waits_hit {L : Lk} (hL : Fit L) {t : Int} {k : Nat} (hk : k < L.rows.length) (h : t ∈ rg L.rows k) : waitsOf L t = k := by
  obtain ⟨u, rfl, hu, hon, _, _⟩ := row_in hL (by rw [← hL.lr]; exact hk) h
  show (if 0 ≤ (u : Int) ∧ (u : Int) < (L.own.length : Int) then lg L.on (u : Int).toNat else -1) = _
  rw [if_pos ⟨by omega, by omega⟩]; exact hon
theorem waits_miss {L : Lk} (hL : Fit L) {t : Int} (h : ∀ j, j < L.rows.length → t ∉ rg L.rows j) : waitsOf L t = -1 := by
  show (if 0 ≤ t ∧ t < (L.own.length : Int) then lg L.on t.toNat else -1) = _
  by_cases hr : 0 ≤ t ∧ t < (L.own.length : Int)
  · rw [if_pos hr]
    rcases hL.onr t.toNat (by omega) with e | ⟨e1, e2, _, _⟩
    · exact e
    · exfalso
      have hm : (onAt L t.toNat).toNat < L.ow.length := by omega
      refine h (onAt L t.toNat).toNat (by rw [hL.lr]; exact hm) (((hL.row _ hm).2 t).2 ⟨hr.1, hr.2, by omega⟩)
  · rw [if_neg hr]
set_option maxRecDepth 100000 in
set_option maxHeartbeats 4000000 in
theorem lrWaits (b : Nat) (L : Lk) (t : Int) (w : World) (h : RdRl w b L) (hL : Fit L) :
    Calls Try.prog 71 #[.pointer (some ⟨b, 0, none⟩), .int .i64 t] w fun en w' => en = .returned (.int .i64 (waitsOf L t)) ∧ w = w' := by
  obtain ⟨v0, v1, v2, k0, k1, k2, r0, r1, rr⟩ := h
  obtain ⟨a, cap, g, off, rfl, hcap, hbig, ha, hc⟩ := rr
  have hm32 := hL.m
  have hlr := hL.lr
  have HL := hid hL
  clear r0 r1 hL
  generalize hRn : L.rows.length = Rn at *
  have HRn := hid hRn
  clear hRn hlr
  have hRn32 : Rn ≤ 32 := by rw [← HRn.out, HL.out.lr]; exact hm32
  clear hm32
  go_enter Try.func71, Try.ntmps71
  go_wp2_with fail
  go_loop [5] (fun i => ∃ k : Nat, k ≤ Rn ∧ i = .int .i64 k ∧ Hid (∀ j, j < k → t ∉ rg L.rows j)) (fun i => Rn - natOf i)
  case atStart => exact ⟨0, Nat.zero_le _, rfl, fun j hj => absurd hj (by omega)⟩
  case round =>
    obtain ⟨k, hk, rfl, hn⟩ := hrel
    by_cases hlt : k < Rn
    · obtain rfl := ha (by omega)
      obtain ⟨x, hx, hxr⟩ := hc k hlt
      obtain ⟨xa, xc, xb, xo, rfl, q⟩ := id hxr
      have i1 : (k : Int) < (Rn : Int) := by omega
      have i2 : decide (k < Rn) = true := by simp; omega
      clear hc ha q
      go_wp2_with fail
      refine (refIndex _ (rg L.rows k) t _ hxr).mono ?_
      rintro en w2 ⟨rfl, rfl⟩
      by_cases hm : t ∈ rg L.rows k
      · have Hm := hid hm
        have d := idxMem hm
        rw [d]
        clear hm hxr d
        go_wp2_with fail
        go_ret
        exact ⟨by rw [waits_hit HL.out (by rw [HRn.out]; exact hlt) Hm.out]; rfl, rfl⟩
      · have hn' : Hid (∀ j, j < k + 1 → t ∉ rg L.rows j) := fun j hj => by
          by_cases e : j = k
          · subst e; exact hm
          · exact hn.out j (by omega)
        have d : idx (rg L.rows k) t = -1 := by unfold idx; rw [if_neg hm]
        rw [d]
        clear hm hxr d hn
        go_wp2_with fail
        go_round
        case rel => exact ⟨k + 1, by omega, by go_num, hn'⟩
        case measure => simp [natOf, intOf]; omega
    · have i1 : ¬ (k : Int) < (Rn : Int) := by omega
      have hw : Hid (waitsOf L t = -1) := waits_miss HL.out fun j hj => hn.out j (by rw [HRn.out] at hj; omega)
      clear hc ha
      go_wp2_with fail
      go_ret
      exact ⟨by rw [hw.out]; rfl, rfl⟩
open Classical in
set_option maxRecDepth 100000 in
set_option maxHeartbeats 4000000 in
theorem lrCloses (b : Nat) (L : Lk) (t o : Nat) (w : World) (h : RdRl w b L) (hL : Fit L) (ho : o < L.own.length) :
    Calls Try.prog 72 #[.pointer (some ⟨b, 0, none⟩), .int .i64 t, .int .i64 o] w fun en w' => en = .returned (.bool (decide (Go.Lk.Reach L o t))) ∧ w = w' := by
  have Hrd := hid h
  obtain ⟨v0, v1, v2, k0, k1, k2, r0, r1, rr⟩ := h
  obtain ⟨a0, c0, g0, o0, rfl, hcap0, hbig0, ha0, hc0⟩ := r0
  obtain ⟨a1, c1, g1, o1, rfl, hcap1, hbig1, ha1, hc1⟩ := r1
  have hn64 := hL.n
  have hm32 := hL.m
  have HL := hid hL
  have Ho := hid ho
  clear rr hcap0 hbig0 ha0 hc0 hcap1 hbig1 hL
  go_enter Try.func72, Try.ntmps72
  go_wp2_with fail
  go_loop [2, 7] (fun ov i => ∃ k x : Nat, k ≤ L.own.length ∧ x < L.own.length ∧ i = .int .i64 k ∧ ov = .int .i64 x ∧ Hid (ReachN L o k x ∧ (Go.Lk.Reach L o t ↔ Go.Lk.Reach L x t))) (fun _ i => L.own.length + 1 - natOf i)
  case atStart => exact ⟨0, o, Nat.zero_le _, ho, rfl, rfl, .refl, Iff.rfl⟩
  case round =>
    obtain ⟨k, x, hk, hx, rfl, rfl, hr⟩ := hrel
    have i1 : (k : Int) ≤ (L.own.length : Int) := by omega
    have i2 : decide (k ≤ L.own.length) = true := by simp; omega
    by_cases hxt : x = t
    · subst hxt
      have hd : Hid (decide (Go.Lk.Reach L o x) = true) := decide_eq_true (hr.out.2.2 .refl)
      go_wp2_with fail
      go_ret
      exact ⟨by rw [hd.out]; rfl, rfl⟩
    · have d1 : ((x : Int) == (t : Int)) = false := by simp; omega
      have Hxt := hid hxt
      clear hxt
      go_wp2_with fail
      refine (lrWaits b L x _ Hrd.out HL.out).mono ?_
      rintro en w2 ⟨rfl, rfl⟩
      have hwx : waitsOf L x = onAt L x := by
        show (if 0 ≤ (x : Int) ∧ (x : Int) < (L.own.length : Int) then lg L.on (x : Int).toNat else -1) = _
        rw [if_pos ⟨by omega, by omega⟩]; rfl
      rw [hwx]
      clear hwx
      by_cases hon : 0 ≤ onAt L x
      · obtain ⟨m, hm⟩ := Int.eq_ofNat_of_zero_le hon
        have Hm := hid hm
        have hnx : Hid (nx L x = (lg L.ow m).toNat) := by unfold Hid nx; rw [hm]; rfl
        have hnl := nx_lt HL.out hx hon
        have hml : m < L.ow.length := by
          rcases HL.out.onr x hx with e | ⟨_, h2, _, _⟩
          · omega
          · omega
        have how : 0 ≤ lg L.ow m := by
          rcases HL.out.onr x hx with e | ⟨_, _, h3, _⟩
          · omega
          · rw [hm] at h3; exact h3
        obtain ⟨y, hy⟩ := Int.eq_ofNat_of_zero_le how
        have hyx : nx L x = y := by rw [hnx.out, hy]; rfl
        obtain rfl := ha1 (by intro h; rw [h] at hml; simp at hml)
        have hcell := hc1 m hml
        have hly : L.ow.getD m 0 = y := hy
        rw [hly] at hcell
        have hr' : Hid (ReachN L o (k + 1) y ∧ (Go.Lk.Reach L o t ↔ Go.Lk.Reach L y t)) := by
          rw [← hyx]
          refine ⟨.step hr.out.1 hon, hr.out.2.trans ⟨fun h => (reach_inv h Hxt.out).2, fun h => reach_cons hon h⟩⟩
        have hk1 := reachN_short HL.out Ho.out hr'.out.1
        have hyl : y < L.own.length := by rw [← hyx]; exact hnl
        rw [hm]
        have j1 : (m : Int) < (L.ow.length : Int) := by omega
        have j2 : decide (m < L.ow.length) = true := by simp; omega
        clear hm hon hnx how hy hly hr hyx hnl ha1 hc1
        go_wp2_with fail
        go_round
        case rel => exact ⟨k + 1, y, by omega, hyl, by go_num, rfl, hr'⟩
        case measure => simp [natOf, intOf]; omega
      · have hd : Hid (decide (Go.Lk.Reach L o t) = false) := decide_eq_false fun h => hon (reach_inv (hr.out.2.1 h) Hxt.out).1
        have d2 : decide (onAt L x < 0) = true := by simp; omega
        clear hon hc1 ha1
        go_wp2_with fail
        go_ret
        exact ⟨by rw [hd.out]; rfl, rfl⟩
set_option maxRecDepth 100000 in
set_option maxHeartbeats 4000000 in
theorem lrHeld (b : Nat) (L : Lk) (t : Int) (w : World) (h : RdRl w b L) (hL : Fit L) :
    Calls Try.prog 76 #[.pointer (some ⟨b, 0, none⟩), .int .i64 t] w (Ret w fun v => numsP .i64 v (heldK L.ow t L.ow.length) * emp) := by
  obtain ⟨v0, v1, v2, k0, k1, k2, r0, r1, rr⟩ := h
  obtain ⟨a1, c1, g1, o1, rfl, hcap1, hbig1, ha1, hc1⟩ := r1
  have hs := Sat.start w
  haveI : Old w b 1 (.slice a1 L.ow.length c1) := ⟨k1⟩
  have hm32 := hL.m
  have HL := hid hL
  clear rr r0 hL k0 k2 k1
  have hout := hs.empty_slice 1 3
  clear hs
  go_enter Try.func76, Try.ntmps76
  go_wp2_with fail
  go_loopw [5, 6] (fun v i wr => ∃ (k : Nat) (a3 : Option Addr) (c3 : Nat) (O : List Int), k ≤ L.ow.length ∧ i = .int .i64 k ∧ v = .slice a3 O.length c3 ∧ Hid (O = heldK L.ow t k) ∧ O.length ≤ 32 ∧ Sat w wr (numsP .i64 (.slice a3 O.length c3) O * emp)) (fun _ i _ => L.ow.length - natOf i)
  case atStart => exact ⟨0, _, 0, [], Nat.zero_le _, rfl, rfl, rfl, by simp, hout⟩
  case round =>
    obtain ⟨k, a3, c3, O, hk, rfl, rfl, hO, hOl, hs2⟩ := hrel
    clear hout
    by_cases hlt : k < L.ow.length
    · have i1 : (k : Int) < (L.ow.length : Int) := by omega
      have i2 : decide (k < L.ow.length) = true := by simp; omega
      obtain rfl := ha1 (by intro h; rw [h] at hlt; simp at hlt)
      haveI : Old w g1 (o1 + k) (.int .i64 (lg L.ow k)) := ⟨hc1 k hlt⟩
      have hne := hid (heldK_next L.ow t k)
      have hlen := hid (heldK_len L.ow t (k + 1))
      clear hc1 ha1
      by_cases hx : lg L.ow k = t
      · have e1 : (lg L.ow k == t) = true := by simp [hx]
        have Hx := hid hx
        clear hx
        go_wp2_with (first | (at_builtin; refine wpList_append_nums rfl rfl rfl rfl (by omega) ?_; intro ap ac aL aw ahL ah1 ah2 ahs _) | (refine wpList_slice_from rfl rfl rfl rfl (by omega) (by omega) ?_; intro px pc pL php phL ph1 ph2) | (refine wpList_slice_to rfl rfl rfl rfl (by omega) (by omega) ?_; intro px pc pL php phL ph1 ph2))
        go_roundw
        case rel =>
          have h9 : aL = heldK L.ow t (k + 1) := by rw [hne.out, if_pos Hx.out, ahL.out, hO.out]
          exact ⟨k + 1, ap, ac, aL, by omega, by go_num, rfl, h9, by rw [h9]; have := hlen.out; omega, own_left⟩
        case measure => simp [natOf, intOf]; omega
      · have e1 : (lg L.ow k == t) = false := by simp [hx]
        have Hx := hid hx
        clear hx
        go_wp2_with (first | (at_builtin; refine wpList_append_nums rfl rfl rfl rfl (by omega) ?_; intro ap ac aL aw ahL ah1 ah2 ahs _) | (refine wpList_slice_from rfl rfl rfl rfl (by omega) (by omega) ?_; intro px pc pL php phL ph1 ph2) | (refine wpList_slice_to rfl rfl rfl rfl (by omega) (by omega) ?_; intro px pc pL php phL ph1 ph2))
        go_roundw
        case rel => exact ⟨k + 1, a3, c3, O, by omega, by go_num, rfl, by unfold Hid; rw [hne.out, if_neg Hx.out, List.append_nil]; exact hO.out, hOl, own_left⟩
        case measure => simp [natOf, intOf]; omega
    · have i1 : ¬ (k : Int) < (L.ow.length : Int) := by omega
      have hkl : k = L.ow.length := by omega
      have hO' : Hid (O = heldK L.ow t L.ow.length) := by unfold Hid; rw [hO.out, hkl]
      clear hO hkl hc1 ha1
      go_wp2_with fail
      go_ret
      refine ⟨_, rfl, ?_⟩
      rw [← hO'.out]
      exact hs2
end Go.Proofs.Ytfphgcplpokigaa
