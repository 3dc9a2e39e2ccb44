/-
  Parts of the proof: Line DelD DelE DelF DelI LockO KernC KernD KernE ConfA ConfB.
-/
import Derived.Handy
import Derived.Test.YthcfimbidmogkaaGreatDoorKB1
import Derived.Test.YthcfimbidmogkaaGreatDoorKB2
import Derived.Test.YthcfimbidmogkaaGreatDoorKB3
import Derived.Test.YthcfimbidmogkaaGreatDoorKB4
import Derived.Test.YthcfimbidmogkaaGreatDoorKB5
import Derived.Test.YthcfimbidmogkaaGreatDoorKB6
set_option linter.unusedVariables false
set_option linter.unusedSimpArgs false
set_option maxHeartbeats 32000000
set_option maxRecDepth 100000
namespace Go.Proofs.YthcfimbidmogkaaGreatDoor
open Go.RowKit Go.Sx Go.Rq
def Tab (w : World) : Prop:=TabAt 0 Lib.deBruijn32tab w
theorem Tab.later {w0 w : World} {P : HP} (h : Tab w0) (hs : Sat w0 w P) : Tab w:=fun j hj=>hs.keep (h j hj)
theorem zkC {x : Nat} (h0 : x ≠ 0) (hx : x < 4294967296) : Lib.ctz 32 x = low x:=by
 obtain ⟨m,hm,hk⟩:=Lib.ctzFrom_spec 32 x (by omega) (by omega);have e : Lib.ctz 32 x = Lib.ctzFrom 32 x:=by unfold Lib.ctz;rw [if_neg h0]
 rw [e];generalize Lib.ctzFrom 32 x = k at hm hk;have h1 : ∀ j,j < k → x.testBit j = false:=fun j hj=>by
  rw [hm,Nat.mul_comm,Nat.testBit_mul_two_pow];simp;omega
 have h2 : x.testBit k = true:=by
  rw [hm,Nat.mul_comm,Nat.testBit_mul_two_pow];simp [Nat.testBit_zero]
 unfold low;rw [z26 hk h2 h1];rfl
theorem zbp (x k idx : Nat) (w : World) (hx0 : ((x : Int) == 0) = false)
  (key : bits BinOp.and IntKind.u32 (x : Int) (-(x : Int) % 4294967296) * 125613361 % 4294967296 / 134217728 = (idx : Int))
  (hi : idx < 32) (hk : k < 32) (hcell : w.cell? ⟨0,idx,none⟩ = some (.int .u8 k)) :
  Calls Tryz.prog 131 #[.int .u32 x] w fun e w'=>e = .returned (.int .i64 k) ∧ w = w':=by
 go_enter Tryz.func131,Tryz.ntmps131
 go_wp2_with (simp only [key]);go_ret;exact ⟨rfl,rfl⟩
theorem zj3 (x : Nat) (h0 : x ≠ 0) (hx : x < 4294967296) (w : World) (hT : Tab w) : Calls Tryz.prog 131 #[.int .u32 x] w fun e w'=>e = .returned (.int .i64 (low x)) ∧ w = w':=by
 rw [← zkC h0 hx];obtain ⟨hlow,hk⟩:=Lib.lowest_bit 32 x h0 hx;obtain ⟨hi,htab⟩:=Lib.deBruijn32_at _ hk;have hcell:=hT _ hi;rw [htab] at hcell;exact zbp x _ _ w (by simp;omega) (tz32_key x _ hx h0 hlow) hi hk hcell
theorem zil {R n fr bk ah af lv} (h : Rep R n fr bk ah af lv) (e : z0h R = none) : n = 0:=by
 apply Nat.eq_of_testBit_eq;intro i;rw [Nat.zero_testBit]
 rcases Nat.lt_or_ge i 32 with a | a
 ·rw [h.bit a];apply decide_eq_false;intro hne;unfold z0h at e
  split at e
  ·rename_i f
   rw [List.find?_eq_none] at f;have:=f i (List.mem_range.2 a);simp at this;exact hne this
  ·rename_i l f
   obtain ⟨h1,h2,_⟩:=z0m f;have h2 : R l ≠ []:=of_decide_eq_true h2
   cases hr : R l with
   | nil=>exact h2 hr
   | cons x r=>rw [hr] at e;cases e
 ·exact Nat.testBit_lt_two_pow (Nat.lt_of_lt_of_le h.top (Nat.pow_le_pow_right (by decide : 0 < 2) a : 2 ^ 32 ≤ 2 ^ i))
theorem zim {R n fr bk ah af lv} (h : Rep R n fr bk ah af lv) {t : Nat} (e : z0h R = some t) : n ≠ 0 ∧ low n < 32 ∧ ag fr (low n) = t ∧ t < 64:=by
 unfold z0h at e
 split at e
 ·cases e
 ·rename_i l f
  obtain ⟨h1,h2,h3⟩:=z0m f;have h2' : R l ≠ []:=of_decide_eq_true h2;have hb : n.testBit l = true:=by rw [h.bit h1];exact decide_eq_true h2'
  have hlow : low n = l:=by
   unfold low;rw [z26 h1 hb fun k hk=>by rw [h.bit (by omega)];exact h3 k hk];rfl
  rw [hlow]
  cases hr : R l with
  | nil=>exact absurd hr h2'
  | cons x r =>
   rw [hr] at e;simp at e;subst e;refine ⟨fun e0=>?_,h1,?_,h.rng (l:=l) (by rw [hr];simp)⟩
   ·rw [e0,Nat.zero_testBit] at hb;cases hb
   ·rw [h.hfr h2',hr];rfl
theorem z7u (b o : Nat) (R : Nat → List Nat) (e : z0h R = none) (w0 w : World) (F : HP) (hs : Sat w0 w (rdP b o R * F)) :
  Calls Tryz.prog 132 #[.pointer (some ⟨b,o,none⟩)] w (zp w0 (.tuple #[.int .i64 0,.bool false]) (rdP b o R * F)):=by
 obtain ⟨⟨n,fr,bk,ah,af,lv,cnt⟩,h,hs⟩:=z3S hs;obtain rfl : n = 0:=zil h e;have H:=hid h;have hs2 : Sat w0 w (pts b o [.int .u32 0] * (pts b (o + 1) (fr.map (Value.int .i8)) * (pts b (o + 33) (bk.map (Value.int .i8)) * (pts b (o + 65) (ah.map (Value.int .i8)) * (pts b (o + 129) (af.map (Value.int .i8)) * (pts b (o + 193) (lv.map (Value.int .i8)) * (pts b (o + 257) [.int .i64 cnt] * F))))))):=hs.perm (by unfold raP;simp only [Int.natCast_zero];ac_rfl);clear h hs e
 go_enter Tryz.func132,Tryz.ntmps132
 go_wp2_with fail;go_ret2;exact ⟨rfl,z2S (n:=0) (cnt:=cnt) z3 H.out⟩
theorem z7v (b o : Nat) (R : Nat → List Nat) (t : Nat) (e : z0h R = some t) (w0 w : World) (F : HP) (hs : Sat w0 w (rdP b o R * F)) (hT : Tab w0) :
  Calls Tryz.prog 132 #[.pointer (some ⟨b,o,none⟩)] w (zp w0 (.tuple #[.int .i64 t,.bool true]) (rdP b o R * F)):=by
 obtain ⟨⟨n,fr,bk,ah,af,lv,cnt⟩,h,hs⟩:=z3S hs;obtain ⟨h0,h1,h2,h3⟩:=zim h e;have h0 : n ≠ 0:=h0;have h1 : low n < 32:=h1;have h2 : ag fr (low n) = t:=h2;have htop : n < 4294967296:=h.top;have H:=hid h;have hs2 : Sat w0 w (pts b o [.int .u32 n] * (pts b (o + 1) (fr.map (Value.int .i8)) * (pts b (o + 33) (bk.map (Value.int .i8)) * (pts b (o + 65) (ah.map (Value.int .i8)) * (pts b (o + 129) (af.map (Value.int .i8)) * (pts b (o + 193) (lv.map (Value.int .i8)) * (pts b (o + 257) [.int .i64 cnt] * F))))))):=hs.perm (by unfold raP;ac_rfl);have htz : ∀ m,Hid (Calls Tryz.prog 131 #[.int .u32 n] (w.drewN m) fun e w'=>e = .returned (.int .i64 (low n)) ∧ w.drewN m = w'):=fun m=>zj3 n h0 htop _ (hT.later (hs2.drewN m));haveI : Lt (low n) fr.length:=⟨by rw [h.lfr];exact h1⟩;have d1 : decide (low n < 32) = true:=decide_eq_true h1;have i1 : (low n : Int) < 32:=by omega
 have e0 : ((n : Int) == 0) = false:=by simp;omega
 have H0:=hid h0;generalize low n = l at *;clear h hs e hT h0
 go_enter Tryz.func132,Tryz.ntmps132
 go_wp2_with fail;go_quiet ((go_at_call 131;exact zif (htz _).out));go_wp2_with fail;go_ret2;exact ⟨rfl,z2S (n:=n) (cnt:=cnt) z3 H.out⟩
structure zgY (l : Ln) : Prop where
 all : l.all < 4294967296
 pnd : l.pending < 4294967296
 msk : l.mask < 4294967296
theorem z3L {w0 w : World} {F : HP} {b : Nat} {l : Ln} (hs : Sat w0 w (lnP b l * F)) : Sat w0 w (pts b 0 [.int .u32 l.all,.int .u32 l.pending,.int .u32 l.mask,.int .i64 l.active] * F):=hs
theorem zhJ (b : Nat) (l : Ln) (w0 w : World) (F : HP) (hs : Sat w0 w (lnP b l * F)) : Calls Tryz.prog 56 #[.pointer (some ⟨b,0,none⟩)] w (zp w0 (.int .i64 l.active) (lnP b l * F)):=by
 have hs2:=z3L hs
 go_enter Tryz.func56,Tryz.ntmps56
 go_wp2_with fail;go_ret;exact ⟨rfl,z6⟩
theorem zfG (b : Nat) (l : Ln) (w0 w : World) (F : HP) (hs : Sat w0 w (lnP b l * F)) : Calls Tryz.prog 57 #[.pointer (some ⟨b,0,none⟩)] w (zp w0 (.int .u32 l.pending) (lnP b l * F)):=by
 have hs2:=z3L hs
 go_enter Tryz.func57,Tryz.ntmps57
 go_wp2_with fail;go_ret;exact ⟨rfl,z6⟩
theorem zmm (b : Nat) (l : Ln) (w0 w : World) (F : HP) (hs : Sat w0 w (lnP b l * F)) : Calls Tryz.prog 58 #[.pointer (some ⟨b,0,none⟩)] w (zp w0 (.int .u32 l.mask) (lnP b l * F)):=by
 have hs2:=z3L hs
 go_enter Tryz.func58,Tryz.ntmps58
 go_wp2_with fail;go_ret;exact ⟨rfl,z6⟩
theorem zkz (b : Nat) (l : Ln) (w0 w : World) (F : HP) (hs : Sat w0 w (lnP b l * F)) : Calls Tryz.prog 130 #[.pointer (some ⟨b,0,none⟩)] w (Ret w0 fun _=>lnP b l.leave * F):=by
 obtain ⟨al,pn,mk,ac⟩:=l;have hs2:=z3L hs;clear hs
 by_cases e : ac = 255
 ·subst e
  go_enter Tryz.func130,Tryz.ntmps130
  go_wp2_with fail;go_ret;exact ⟨_,rfl,z6⟩
 ·have e1 : (ac == 255) = false:=by simp [e]
  go_enter Tryz.func130,Tryz.ntmps130
  go_wp2_with fail;go_ret;exact ⟨_,rfl,z6⟩
theorem znu (b : Nat) (l : Ln) (x : Nat) (w0 w : World) (F : HP) (hs : Sat w0 w (lnP b l * F)) (hl : zgY l) (hx : x < 4294967296) : Calls Tryz.prog 175 #[.pointer (some ⟨b,0,none⟩),.int .u32 x] w (zp w0 (.tuple #[]) (lnP b (l.let_ x) * F)):=by
 obtain ⟨al,pn,mk,ac⟩:=l;have hs2:=z3L hs;have e1:=hid (bits_and_u32_nat x al hx hl.all);clear hs
 go_enter Tryz.func175,Tryz.ntmps175
 go_wp2_with fail
 go_end0
 rw [e1.out];exact ⟨rfl,z6⟩
theorem znt (b : Nat) (l : Ln) (n : Nat) (w0 w : World) (F : HP) (hs : Sat w0 w (lnP b l * F)) (hl : zgY l) (hn : n < 16) : Calls Tryz.prog 129 #[.pointer (some ⟨b,0,none⟩),.int .i64 n] w (zp w0 (.tuple #[]) (lnP b (l.bar n) * F)):=by
 obtain ⟨al,pn,mk,ac⟩:=l;have hs2:=z3L hs;have e1:=hid (z1c mk n hl.msk (by omega));have e2:=hid (z9p (show n < 32 by omega));have d1 : decide (n < 16) = true:=decide_eq_true hn;clear hs
 go_enter Tryz.func129,Tryz.ntmps129
 go_wp2_with fail;refine z9 (w0:=w0) ?_;intro wx hsx;go_still_tail 9,(by kernel_rfl);change wpList _ _ _ _ _ wx.drew;go_wp2_with fail
 go_end0
 rw [e2.out,e1.out];exact ⟨rfl,z6⟩
theorem zkA (b : Nat) (l : Ln) (x : Nat) (w0 w : World) (F : HP) (hs : Sat w0 w (lnP b l * F)) (hl : zgY l) (hx : x < 4294967296) : Calls Tryz.prog 86 #[.pointer (some ⟨b,0,none⟩),.int .u32 x] w (zp w0 (.tuple #[.int .u32 (x &&& l.all : Nat),.int .u32 ((x &&& l.all) &&& l.pending : Nat)]) (lnP b (l.raise x) * F)):=by
 obtain ⟨al,pn,mk,ac⟩:=l;have hs2:=z3L hs;have ha : x &&& al < 4294967296:=zbo hx;have e1:=hid (bits_and_u32_nat x al hx hl.all);have e2:=hid (bits_and_u32_nat (x &&& al) pn ha hl.pnd);have e3:=hid (z2d pn (x &&& al) hl.pnd ha);clear hs
 go_enter Tryz.func86,Tryz.ntmps86
 go_wp2_with fail;go_ret2;rw [e1.out,e2.out,e3.out];exact ⟨rfl,z6⟩
theorem zky (b : Nat) (l : Ln) (w0 w : World) (F : HP) (hs : Sat w0 w (lnP b l * F)) (hl : zgY l) (hT : Tab w0) : Calls Tryz.prog 91 #[.pointer (some ⟨b,0,none⟩)] w (zp w0 (.tuple #[.int .i64 (if l.ready then l.enter.active else 0),.bool l.ready]) (lnP b l.enter * F)):=by
 obtain ⟨al,pn,mk,ac⟩:=l;have hs2:=z3L hs;have ha : pn &&& mk < 4294967296:=zbo hl.pnd;have e1:=hid (bits_and_u32_nat pn mk hl.pnd hl.msk);clear hs
 by_cases e : ac = 255
 ·subst e
  by_cases h0 : pn &&& mk = 0
  ·have hr : Ln.ready ⟨al,pn,mk,255⟩ = false:=by unfold Ln.ready;simp [h0]
   have he : Ln.enter ⟨al,pn,mk,255⟩ = ⟨al,pn,mk,255⟩:=by unfold Ln.enter;rw [hr];rfl
   rw [he,hr];have e2 : bits .and .u32 (pn : Int) (mk : Int) = 0:=by rw [e1.out,h0];rfl
   clear e1 h0 hr he
   go_enter Tryz.func91,Tryz.ntmps91
   go_wp2_with fail;go_quiet (fail);go_wp2_with fail;go_ret2;exact ⟨rfl,z6⟩
  ·have hr : Ln.ready ⟨al,pn,mk,255⟩ = true:=by unfold Ln.ready;simp [h0]
   have he : Ln.enter ⟨al,pn,mk,255⟩ = ⟨al,pn &&& (4294967295 - 2 ^ low (pn &&& mk)),mk,low (pn &&& mk)⟩:=by unfold Ln.enter;rw [hr];rfl
   rw [he,hr];have hlow:=(zfK h0 ha).2.1;have hs2:=hs2;have htz : ∀ (wx : World) (P : HP),Sat w0 wx P → Calls Tryz.prog 131 #[.int .u32 (pn &&& mk : Nat)] wx fun e w'=>e = .returned (.int .i64 (low (pn &&& mk))) ∧ wx = w':=fun wx P h=>zj3 _ h0 ha _ (hT.later h);have htz:=hid htz;have e2 : ((((pn &&& mk : Nat)) : Int) == 0) = false:=by simp;omega
   have e3:=hid (z1c pn (low (pn &&& mk)) hl.pnd hlow);have e4:=hid (z9p hlow);have e1:=e1.out;generalize low (pn &&& mk) = lo at *;generalize pn &&& mk = z at *;have i1 : (lo : Int) < 32:=by omega
   clear h0 hr he hT
   go_enter Tryz.func91,Tryz.ntmps91
   go_wp2_with fail;go_quiet (fail);go_wp2_with fail;refine zj (fun w'=>w'.cell? ⟨b,1,none⟩ = some (.int .u32 pn) ∧ w'.cell? ⟨b,2,none⟩ = some (.int .u32 mk)) [(0,true),(1,true),(2,true),(3,true),(4,true),(5,true),(6,true),(7,true),(8,true),(9,true),(10,false),(11,true),(12,true),(13,false)] (by kernel_rfl) (by kernel_rfl) (fun _ _ _ _ h=>h) ⟨z4,z4⟩ ?_
   iterate 10 (refine zf (fun K hK=>?_);simp only [zqS,zqZ]; (first | (rw [if_pos (by rfl)];apply Exists.intro;refine ⟨fun w hSw=>?_,hK _ ?_⟩; (focus ((try dsimp only at hSw);go_simp;try with_reducible rfl))) | (rw [if_neg (ne_true_of_eq_false (by rfl))];refine hK _ ?_));clear hK K;simp only [Act.put,zqA,zqP,zqQ])
   refine ze (fun K hK=>?_);simp only [zqS,zqZ];rw [if_pos (by rfl)];go_wp2_with fail;refine (htz.out _ _ z6).mono ?_;rintro en w1 ⟨rfl,rfl⟩;go_wp2_with fail;refine ⟨⟨z4,z4⟩,?_⟩
   iterate 2 (refine zf (fun K hK=>?_);simp only [zqS,zqZ]; (first | (rw [if_pos (by rfl)];apply Exists.intro;refine ⟨fun w hSw=>?_,hK _ ?_⟩; (focus ((try dsimp only at hSw);go_simp;try with_reducible rfl))) | (rw [if_neg (ne_true_of_eq_false (by rfl))];refine hK _ ?_));clear hK K;simp only [Act.put,zqA,zqP,zqQ])
   refine ze (fun K hK=>?_);simp only [zqS,zqZ];rw [if_pos (by rfl)];go_wp2_with fail;refine ⟨⟨z4,z4⟩,?_⟩;refine zB ?_;go_wp2_with fail;refine z9 (w0:=w0) ?_;intro wx hsx;go_still_tail 12,(by kernel_rfl);change wpList _ _ _ _ _ wx.drew;go_wp2_with fail;go_ret2;rw [e4.out,e3.out];exact ⟨rfl,z6⟩
 ·have hr : Ln.ready ⟨al,pn,mk,ac⟩ = false:=by unfold Ln.ready;simp [e]
  have he : Ln.enter ⟨al,pn,mk,ac⟩ = ⟨al,pn,mk,ac⟩:=by unfold Ln.enter;rw [hr];rfl
  rw [he,hr];have e2 : (ac != 255) = true:=by simp [e]
  clear e1 hr he e
  go_enter Tryz.func91,Tryz.ntmps91
  go_wp2_with fail;go_quiet (fail);go_wp2_with fail;go_ret2;exact ⟨rfl,z6⟩
end Go.Proofs.YthcfimbidmogkaaGreatDoor
namespace Go.Proofs.YthcfimbidmogkaaGreatDoor
open Go.RowKit Go.Sx Go.Dl
theorem zcH (acc : Int) (S : List Ck) : (z0H acc S).map Prod.fst = S.map Prod.fst:=by
 induction S generalizing acc with
 | nil=>rfl
 | cons x r ih=>simp [z0H,ih]
theorem zhh {S : List Ck} {id : Int} : has (z0H 0 S) id ↔ has S id:=by unfold has;rw [zcH]
theorem zjG (S : List Ck) (id : Int) : at_ (z0H 0 S) id = at_ S id:=by unfold at_;rw [zcH]
theorem z9Y (b o : Nat) (S : List Ck) (id : Int) (w0 w : World) (F : HP) (hs : Sat w0 w (z21 b o S * F)) (hno : ¬ has S id) :
  Calls Tryz.prog 161 #[.pointer (some ⟨b,o,none⟩),.int .i64 id] w (zp w0 (.bool false) (z21 b o S * F)):=by
 obtain ⟨a,c,hs⟩:=z2w hs
 by_cases h1 : id < 0
 ·have d1 : decide (id < 0) = true:=by simp [h1]
  go_enter Tryz.func161,Tryz.ntmps161
  go_wp2_with fail;go_quiet (fail);go_wp2_with fail;go_ret;exact ⟨rfl,z1W z6 rfl rfl⟩
 ·have d1 : decide (id < 0) = false:=by simp [h1]
  by_cases h2 : 256 ≤ id
  ·have d2 : decide (256 ≤ id) = true:=by simp [h2]
   go_enter Tryz.func161,Tryz.ntmps161
   go_wp2_with fail;go_quiet (fail);go_wp2_with fail;go_ret;exact ⟨rfl,z1W z6 rfl rfl⟩
  ·have d2 : decide (256 ≤ id) = false:=by simp [h2]
   obtain ⟨m,rfl⟩:=Int.eq_ofNat_of_zero_le (show 0 ≤ id by omega);have hm : m < 256:=by omega
   have hmI : (m : Int) < 256:=by omega
   have d256 : decide (m < 256) = true:=by simp [hm]
   haveI : Lt m (zO S).length:=⟨by rw [z48];exact hm⟩;haveI : zC (pts b (o + 1) ((zO S).map Value.bool)) b (o + 1 + m) (.bool false):=by
    have:=zC.bln b (o + 1) m (zO S)
    rwa [z9B S hm,decide_eq_false hno] at this
   clear hno
   go_enter Tryz.func161,Tryz.ntmps161
   go_wp2_with fail;go_quiet (fail);go_wp2_with fail;go_ret;exact ⟨rfl,z1W z6 rfl rfl⟩
theorem z8O (b o : Nat) (S : List Ck) (id : Int) (w0 w : World) (F : HP) (hs : Sat w0 w (z21 b o S * F)) (hok : SOk S) (hi : has S id) :
  Calls Tryz.prog 161 #[.pointer (some ⟨b,o,none⟩),.int .i64 id] w (zp w0 (.bool true) (z21 b o (z33 id S) * F)):=by
 have hl:=z5I hok;have hdl:=z1o 0 S;have hib : 0 ≤ id ∧ id < 256:=by
  obtain ⟨x,hx,rfl⟩:=List.mem_map.1 hi;exact hok.id x hx
 obtain ⟨m,rfl⟩:=Int.eq_ofNat_of_zero_le hib.1;have hm : m < 256:=by omega
 have hmI : (m : Int) < 256:=by omega
 have d1 : decide ((m : Int) < 0) = false:=by simp
 have d2 : decide (256 ≤ (m : Int)) = false:=by rw [decide_eq_false_iff_not];omega
 have d256 : decide (m < 256) = true:=by simp [hm]
 obtain ⟨a,c,hs⟩:=z2w hs;haveI : Lt m (zO S).length:=⟨by rw [z48];exact hm⟩;haveI : zC (pts b (o + 1) ((zO S).map Value.bool)) b (o + 1 + m) (.bool true):=by
  have:=zC.bln b (o + 1) m (zO S)
  rwa [z9B S hm,decide_eq_true hi] at this
 have Hruns:=hid (ziq (S:=S) (m:=m));have Hat:=hid (zjG S (m : Int));have Hhas:=hid (zhh.2 hi);have Hdel:=hid (zlG hok hi);have hk:=zh2 hi;have Hrow:=hid (fun h=>zjT S (at_ S (m : Int)) h);have Hrowe:=hid (fun h=>zbs S (at_ S (m : Int)) hk h);have Hget:=hid (fun k hk=>z6j S k hk);have Hps:=hid (z4R S (at_ S (m : Int)));have hlf:=hid hok.lf;have hup:=hid hok.up;have Hnn:=hid (fun k hk=>z5A hok k hk);clear hok hi hib;generalize at_ S (m : Int) = k at *;generalize hD : z0H 0 S = D at *;have HD:=hid hD;have Hdl:=hid hdl;have hDl : D.length ≤ 256:=by omega
 have hkD : k < D.length:=by omega
 clear hD hdl;obtain ⟨g,off,rfl⟩:=hs.someR (E:=z5i) a D.length c (show 0 < D.length by omega)
 go_enter Tryz.func161,Tryz.ntmps161
 go_wp2_with fail;go_quiet (fail);go_wp2_with fail;refine (z7K _ D (m : Int) _ w0 _ _ zea Hhas.out hDl).mono ?_;rintro e w2 ⟨rfl,hs2⟩;rw [Hat.out];generalize w.heap.size = cb at *;haveI : Lt k D.length:=⟨hkD⟩
 by_cases hlast : k + 1 < S.length
 ·have hlD : k + 1 < D.length:=by have:=Hdl.out;omega
  haveI : Lt (k + 1) D.length:=⟨hlD⟩;have g1:=Hget.out k hk;have g2:=Hget.out (k + 1) hlast;rw [Hps.out] at g2;have hrw:=Hrow.out hlast;have f1:=hlf.out (S.getD k (0,0)) (by simp [List.getD,hk]);have f2:=hlf.out (S.getD (k + 1) (0,0)) (by simp [List.getD,hlast]);have n1:=Hnn.out k (by omega);have u1 : (S.getD k (0,0)).2 ≤ (S.getD (k + 1) (0,0)).2:=by
   have:=List.pairwise_iff_getElem.1 hup.out k (k + 1) hk hlast (by omega)
   simpa [List.getD,hk,hlast] using this
  have u2 : pre S k ≤ (S.getD k (0,0)).2:=by
   unfold pre
   split
   ·omega
   ·have:=List.pairwise_iff_getElem.1 hup.out (k - 1) k (by omega) hk (by omega)
    simpa [List.getD,hk,show k - 1 < S.length by omega] using this
  generalize S.getD k (0,0) = y1 at *;generalize S.getD (k + 1) (0,0) = y2 at *;obtain ⟨i1,l1⟩:=y1;obtain ⟨i2,l2⟩:=y2;dsimp only at g1 g2 f1 f2 u1 u2 hrw;generalize pre S k = p at *;haveI e1 : z1v (D.getD k (0,0)) 1 (.int .i64 (l1 - p)):=⟨by rw [g1];rfl⟩;haveI e2 : z1v (D.getD (k + 1) (0,0)) 1 (.int .i64 (l2 - l1)):=⟨by rw [g2];rfl⟩;have G2:=hid g2;have Hrw:=hid hrw;clear g1 g2 hrw;obtain ⟨f1a,f1b⟩:=f1;obtain ⟨f2a,f2b⟩:=f2;have Hsplit:=hid (zb6 D (k + 1) ((D.getD (k + 1) (0,0)).1,l2 - l1 + (l1 - p)) hlD);have hkd : decide (k + 1 < D.length) = true:=by simp [hlD]
  have hkd' : decide (k < D.length) = true:=by simp [hkD]
  have hkI : (k : Int) + 1 < (D.length : Int):=by omega
  have hkI2 : (k : Int) < (D.length : Int):=by omega
  go_wp2_with fail;refine z9 (w0:=w0) ?_;intro wx hsx;have q1 : (0 : Int) ≤ (k : Int) + 1:=by omega
  have q4 : IntKind.i64.wrap ((k : Int) + 1) = (k : Int) + 1:=by rw [IntKind.wrap_i64];omega
  have q5 : ((k : Int) + 1).toNat = k + 1:=by omega
  have q6 : IntKind.i64.wrap (l2 - l1 + (l1 - p)) = l2 - l1 + (l1 - p):=by rw [IntKind.wrap_i64];omega
  go_still_tail 20,(by kernel_rfl)
  change wpList _ _ _ _ _ wx.drew
  clear q4 q5 q6;go_wp2_with fail;refine (z50 _ (D.set (k + 1) ((D.getD (k + 1) (0,0)).1,l2 - l1 + (l1 - p))) k _ rfl w0 _ _ own (by rw [List.length_set];exact hkD) (by rw [List.length_set];exact hDl)).mono ?_;rintro e w3 ⟨v3,rfl,hs3⟩;generalize hL : (D.set (k + 1) ((D.getD (k + 1) (0,0)).1,l2 - l1 + (l1 - p))).eraseIdx k = L at hs3;have HL:=hid hL;clear hL;obtain ⟨a5,c5,rfl⟩:=hs3.recs_form;go_wp2_with fail;refine z9 (w0:=w0) ?_;intro wy hsy
  go_still_tail 5,(by kernel_rfl)
  change wpList _ _ _ _ _ wy.drew
  go_wp2_with fail;go_ret;refine ⟨rfl,z1W z6 ?_ Hruns.out⟩;rw [← HL.out,Hdel.out,Hrw.out,List.eraseIdx_eq_take_drop_succ,Hsplit.out.2,G2.out,List.take_set_of_le (by omega)]
  congr 2
  show ((i2,l2 - l1 + (l1 - p)) : Ck) = (i2,l2 - p)
  congr 1
  omega
 ·have hlD : ¬ k + 1 < D.length:=by have:=Hdl.out;omega
  have hkd : decide (k + 1 < D.length) = false:=by simp;omega
  have hrw:=hid (Hrowe.out (by omega));go_wp2_with fail;refine (z50 _ D k _ rfl w0 _ _ own hkD hDl).mono ?_;rintro e w3 ⟨v3,rfl,hs3⟩;generalize hL : D.eraseIdx k = L at hs3;have HL:=hid hL;clear hL;obtain ⟨a5,c5,rfl⟩:=hs3.recs_form;go_wp2_with fail;refine z9 (w0:=w0) ?_;intro wy hsy
  go_still_tail 5,(by kernel_rfl)
  change wpList _ _ _ _ _ wy.drew
  go_wp2_with fail;go_ret;refine ⟨rfl,z1W z6 ?_ Hruns.out⟩;rw [← HL.out,Hdel.out,hrw.out,List.eraseIdx_eq_take_drop_succ,List.drop_eq_nil_of_le (by omega),List.append_nil]
theorem za1 (b o : Nat) (w0 w : World) (F : HP) (hs : Sat w0 w (z21 b o [] * F)) :
  Calls Tryz.prog 78 #[.pointer (some ⟨b,o,none⟩)] w (Ret w0 fun v=>z5 .i64 v [] * (z21 b o [] * F)):=by
 obtain ⟨a,c,hs⟩:=z2w hs;have hl : (z0H 0 []).length = 0:=rfl;rw [hl] at hs
 go_enter Tryz.func78,Tryz.ntmps78
 go_wp2_with fail;go_ret;refine ⟨_,rfl,?_⟩;have h2 : Sat w0 w (z21 b o [] * F):=z1W z6 rfl rfl;exact h2.slice_nil 1
def lenOf (v : Value) : Nat:=match v with
 | .slice _ n _=>n
 | _=>0
theorem zir {x : Ck} {r : List Ck} (nd : ((x :: r).map Prod.fst).Nodup) {m : Nat} (hm : x.1 = (m : Int)) : (zO (x :: r)).set m false = zO r:=by
 rw [List.map_cons,List.nodup_cons] at nd;refine z9C false (decide_eq_false (by rw [← hm];exact nd.1)) fun i hi=>?_;unfold has;rw [List.map_cons,List.mem_cons]
 constructor
 ·exact .inr
 ·rintro (h | h)
  ·exact absurd h (by omega)
  ·exact h
theorem zip (S : List Ck) : zO (S.map dec) = zO S:=by
 unfold zO;refine List.map_congr_left fun i _=>decide_eq_decide.2 ?_;unfold has;rw [List.map_map];exact Iff.rfl
theorem zhe {A T : List Ck} (h : (A ++ T).Pairwise fun a b=>a.2 ≤ b.2) (hA : ∀ y ∈ A,y.2 = 0) (hT : ∀ y,T.head? = some y → 0 < y.2) :
  (A ++ T).filter (fun x=>x.2 == 0) = A ∧ (A ++ T).filter (fun x=>x.2 != 0) = T:=by
 have hall : ∀ y ∈ T,0 < y.2:=by
  intro y hy
  cases T with
  | nil=>cases hy
  | cons z r =>
   have h1:=hT z rfl;rw [List.pairwise_append] at h;have h2:=h.2.1;rw [List.pairwise_cons] at h2
   rcases List.mem_cons.1 hy with rfl | hy
   ·exact h1
   ·have:=h2.1 y hy;omega
 constructor
 ·rw [List.filter_append,List.filter_eq_self.2 (fun y hy=>by simp [hA y hy]),List.filter_eq_nil_iff.2 (fun y hy=>by have:=hall y hy;simp;omega),List.append_nil]
 ·rw [List.filter_append,List.filter_eq_nil_iff.2 (fun y hy=>by simp [hA y hy]),List.filter_eq_self.2 (fun y hy=>by have:=hall y hy;simp;omega),List.nil_append]
theorem za2 (b o : Nat) (x0 : Ck) (S0 : List Ck) (w0 w : World) (F : HP) (hs : Sat w0 w (z21 b o (x0 :: S0) * F)) (hok : SOk (x0 :: S0)) :
  Calls Tryz.prog 78 #[.pointer (some ⟨b,o,none⟩)] w (Ret w0 fun v=>z5 .i64 v (z2H (x0 :: S0)) * (z21 b o (z2X (x0 :: S0)) * F)):=by
 have hl:=z5I hok;obtain ⟨a,c,hs⟩:=z2w hs;have hdl : (z0H 0 (x0 :: S0)).length = S0.length + 1:=by rw [z1o];rfl
 rw [hdl] at hs;have hd0 : z0H 0 (x0 :: S0) = (x0.1,x0.2 - 0) :: z0H x0.2 S0:=rfl;have hx0:=hok.lf x0 (by simp);have Hup:=hid hok.up;have Hnd:=hid hok.nd;have Hid':=hid hok.id;have Hlf:=hid hok.lf;have HT:=hid (ziJ (x0 :: S0));have Hsp : Hid ((x0 :: S0).map dec = (((x0 :: S0).map dec).filter fun x=>x.2 == 0) ++ ((x0 :: S0).map dec).filter fun x=>x.2 != 0):=by
  refine zbu ?_ ?_
  ·rw [List.pairwise_map];exact hok.up.imp_of_mem fun _ _ h=>by show _ - 1 ≤ _ - 1;omega
  ·intro y hy;obtain ⟨z,hz,rfl⟩:=List.mem_map.1 hy;have:=hok.lf z hz;show 0 ≤ z.2 - 1;omega
 have Hdd:=hid (zhc x0 S0);have Hrd:=hid (zip (x0 :: S0));obtain ⟨g,off,rfl⟩:=hs.someR (E:=z5i) a (S0.length + 1) c (show 0 < (z0H 0 (x0 :: S0)).length by omega);haveI : Lt 0 (z0H 0 (x0 :: S0)).length:=⟨by omega⟩;haveI e1 : z1v ((z0H 0 (x0 :: S0)).getD 0 (0,0)) 1 (.int .i64 x0.2):=⟨by rw [hd0];show some (Value.int .i64 (x0.2 - 0)) = _;rw [Int.sub_zero]⟩;have Hset : Hid ((z0H 0 (x0 :: S0)).set 0 (((z0H 0 (x0 :: S0)).getD 0 (0,0)).1,x0.2 - 1) = z0H 0 ((x0 :: S0).map dec)):=by
  rw [Hid,Hdd.out,hd0];rfl
 clear hok hd0 hdl;generalize hD : z0H 0 (x0 :: S0) = D at *;generalize hOv : z2H (x0 :: S0) = OV at *;generalize hTk : z2X (x0 :: S0) = TK at *;have hx2:=hx0.1;have hx3:=hx0.2;generalize x0.2 = q at hx2 hx3 e1 Hset;clear hx0 hD;have hl1 : S0.length + 1 ≤ 256:=hl;have hb0 : ((S0.length : Int) + 1 == 0) = false:=by rw [beq_eq_false_iff_ne];omega
 go_enter Tryz.func78,Tryz.ntmps78
 go_wp2_with fail
 go_loopw [3] (fun ov wr=>∃ (A T : List Ck) (v : Value),(x0 :: S0).map dec = A ++ T ∧ (∀ y ∈ A,y.2 = 0) ∧ Sat w0 wr (z5 .i64 ov (A.map Prod.fst) * (pts b o [v] * (z7 v (z0H 0 T) * (pts b (o + 1) ((zO T).map Value.bool) * F))))) (fun ov _=>S0.length + 1 - lenOf ov)
 case atStart =>
  refine ⟨[],(x0 :: S0).map dec,.slice (some ⟨g,off,none⟩) (S0.length + 1) c,rfl,by simp,?_⟩;have h5:=z6 (w0:=w0) (w:=w.setCell ⟨g,off + 1,none⟩ (.int .i64 (q - 1)));rw [show D.set 0 ((D.getD 0 Enc.dft).1,q - 1) = _ from Hset.out] at h5;rw [Hrd.out];show Sat w0 _ (z5 .i64 (.slice none 0 0) [] * _);rw [z1r,zm];exact h5.perm (by ac_rfl)
 case round =>
  obtain ⟨A,T,v,hAT,hA0,hs2⟩:=hrel;clear hs;obtain ⟨a3,c3,rfl⟩:=(hs2.pull (Q:=z5 .i64 u3 (A.map Prod.fst))).slice_form;obtain ⟨a4,c4,rfl⟩:=(hs2.pull (Q:=z7 v (z0H 0 T))).recs_form;rw [z1o] at hs2;have hlen : A.length + T.length = S0.length + 1:=by
   have:=congrArg List.length hAT
   simpa using this.symm
  have hnd : (T.map Prod.fst).Nodup:=by
   have h1 : (((x0 :: S0).map dec).map Prod.fst).Nodup:=by rw [List.map_map];exact Hnd.out
   rw [hAT,List.map_append,List.nodup_append] at h1;exact h1.2.1
  have htm : ∀ y ∈ T,0 ≤ y.1 ∧ y.1 < 256 ∧ 0 ≤ y.2 ∧ y.2 < 4294967296:=by
   intro y hy;have hy : y ∈ (x0 :: S0).map dec:=by rw [hAT];simp [hy]
   obtain ⟨z,hz,rfl⟩:=List.mem_map.1 hy;have h1:=Hid'.out z hz;have h2:=Hlf.out z hz;exact ⟨h1.1,h1.2,by show 0 ≤ z.2 - 1;omega,by show z.2 - 1 < _;omega⟩
  have hAl : (A.map Prod.fst).length = A.length:=by simp
  have hup : (A ++ T).Pairwise fun a b=>a.2 ≤ b.2:=by
   rw [← hAT,List.pairwise_map];exact Hup.out.imp_of_mem fun _ _ h=>by show _ - 1 ≤ _ - 1;omega
  have Hfin : Hid ((∀ y,T.head? = some y → 0 < y.2) → OV = A.map Prod.fst ∧ TK = T):=fun hT=>by
   obtain ⟨t1,t2⟩:=HT.out;obtain ⟨d1,d2⟩:=zhe hup hA0 hT;rw [hAT] at t1 t2;rw [d1] at t1;rw [d2] at t2;exact ⟨t1.symm,t2.symm⟩
  have HAT:=hid hAT;have HA0:=hid hA0;have Hn:=hid hnd;clear hAT hA0 hup hnd Hsp;rw [← hAl] at hlen;clear hAl;generalize hids : A.map Prod.fst = ids at *;have Hids:=hid hids;clear hids
  cases T with
  | nil =>
   obtain ⟨f1,f2⟩:=Hfin.out (fun y hy=>by cases hy);have F1:=hid f1;have F2:=hid f2;clear f1 f2;simp only [List.length_nil,Nat.add_zero] at hlen hs2;clear hlen;go_wp2_with fail;go_ret;refine ⟨_,rfl,?_⟩;rw [F1.out,F2.out];have h7 : Sat w0 wr (z21 b o [] * (z5 .i64 (.slice a3 ids.length c3) ids * F)):=z1W z6 rfl rfl;have h8 : Sat w0 wr (z5 .i64 (.slice a3 ids.length c3) ids * (z21 b o [] * F)):=h7.perm (by ac_rfl);exact h8
  | cons y r =>
   have hty:=htm y (by simp);obtain ⟨i,l⟩:=y;dsimp only at hty;obtain ⟨ty1,ty2,ty3,ty4⟩:=hty;obtain ⟨m,rfl⟩:=Int.eq_ofNat_of_zero_le ty1;have hm : m < 256:=by omega
   have hmI : (m : Int) < 256:=by omega
   have d256 : decide (m < 256) = true:=by simp [hm]
   haveI : Lt m (zO (((m : Int),l) :: r)).length:=⟨by rw [z48];exact hm⟩;have hdd : z0H 0 (((m : Int),l) :: r) = ((m : Int),l) :: z0H l r:=by
    show ((m : Int),l - 0) :: z0H l r = _;rw [Int.sub_zero]
   have Hrun:=hid (zir (x:=((m : Int),l)) Hn.out (m:=m) rfl);have hdz : l = 0 → z0H l r = z0H 0 r:=fun h=>by rw [h]
   replace hdz:=hid hdz;simp only [List.length_cons] at hlen hs2;rw [hdd] at hs2;have HXDd:=hid hdd;have hdl2:=z1o l r;have Hdl2:=hid hdl2;clear htm hdd hdl2;generalize z0H l r = D2 at *;obtain ⟨g4,off4,rfl⟩:=hs2.someR (E:=z5i) a4 (r.length + 1) c4 (show 0 < (((m : Int),l) :: D2).length by simp);haveI : Lt 0 ((((m : Int),l) :: D2).length):=⟨by simp⟩;have hcap : r.length + 1 ≤ c4:=((hs2.pull (Q:=z7 (.slice (some ⟨g4,off4,none⟩) (r.length + 1) c4) (((m : Int),l) :: D2))).rdR.caps).2.1;have hcm4 : c4 ≤ maxLen:=((hs2.pull (Q:=z7 (.slice (some ⟨g4,off4,none⟩) (r.length + 1) c4) (((m : Int),l) :: D2))).rdR.caps).2.2;unfold maxLen at hcm4;haveI e2 : z1v ((((m : Int),l) :: D2).getD 0 (0,0)) 1 (.int .i64 l):=⟨rfl⟩;haveI e3 : z1v ((((m : Int),l) :: D2).getD 0 (0,0)) 0 (.int .i64 (m : Int)):=⟨rfl⟩;generalize hXD : (((m : Int),l) :: D2) = XD at *;have HXD:=hid hXD;clear hXD
   by_cases hl0 : l = 0
   ·subst hl0;have hAm : ids.length < 256:=by omega
    go_wp2_with (first | (at_builtin;refine z06 rfl rfl rfl rfl (by omega) ?_;intro ap ac aL aw ahL ah1 ah2 ahs _) | (refine z0l rfl rfl rfl rfl (by omega) (by omega) ?_;intro px pc pL php phL ph1 ph2) | (refine z0B rfl rfl rfl rfl (by omega) (by omega) ?_;intro px pc pL php phL ph1 ph2));refine z9 (w0:=w0) ?_;intro wx hsx
    go_still_tail 11,(by kernel_rfl)
    change wpList _ _ _ _ _ wx.drew
    have hdr:=hdz.out trivial;have Hdr:=hid hdr;clear hdr hdz;have rl:=Hdl2.out;have HATn : Hid ((x0 :: S0).map dec = (A ++ [((m : Int),(0 : Int))]) ++ r):=by rw [Hid,HAT.out,List.append_assoc];rfl
    have HA0n : Hid (∀ y ∈ A ++ [((m : Int),(0 : Int))],y.2 = 0):=fun y hy=>by
     rcases List.mem_append.1 hy with h | h
     ·exact HA0.out y h
     ·rw [List.mem_singleton] at h;subst h;rfl
    have HaLn : Hid (aL = (A ++ [((m : Int),(0 : Int))]).map Prod.fst):=by rw [Hid,List.map_append,Hids.out];exact ahL.out
    have key : Hid (∀ wz G,Sat w0 wz (z7 (.slice (some ⟨g4,off4,none⟩) (r.length + 1) c4) XD * G) → Sat w0 wz (z7 (.slice (some ⟨g4,off4 + 2,none⟩) r.length (c4 - 1)) D2 * G)):=by
     rw [Hid];rw [← HXD.out];intro wz G h;have h9:=h.recs_tail;rw [Hdl2.out] at h9;exact h9
    by_cases hc4 : c4 = 1
    ·subst hc4;obtain rfl : r = []:=List.length_eq_zero_iff.1 (by omega);go_wp2_with fail;go_roundw
     case rel =>
      refine ⟨A ++ [((m : Int),(0 : Int))],[],.slice (some ⟨g4,off4,none⟩) 0 0,HATn.out,HA0n.out,?_⟩;rw [← HaLn.out,← Hrun.out,show z0H 0 [] = [] from rfl,z7x,zm];exact z3
     case measure=>simp [lenOf];omega
    ·go_wp2_with fail;go_roundw
     case rel =>
      refine ⟨A ++ [((m : Int),(0 : Int))],r,.slice (some ⟨g4,off4 + 2,none⟩) r.length (c4 - 1),HATn.out,HA0n.out,?_⟩;rw [← HaLn.out,← Hrun.out,← Hdr.out];refine (key.out _ (z5 .i64 (.slice ap aL.length ac) aL * (pts b o [.slice (some ⟨g4,off4 + 2,none⟩) r.length (c4 - 1)] * (pts b (o + 1) (((zO (((m : Int),(0 : Int)) :: r)).set m false).map Value.bool) * F))) ?_).perm (by ac_rfl);exact z3
     case measure=>simp [lenOf];omega
   ·have hb : (l == 0) = false:=by simp [hl0]
    have hpos : 0 < l:=by omega
    obtain ⟨f1,f2⟩:=Hfin.out (fun y hy=>by simp only [List.head?_cons,Option.some.injEq] at hy;subst hy;exact hpos);have F1:=hid f1;have F2:=hid f2;clear f1 f2;go_wp2_with fail;go_ret;refine ⟨_,rfl,?_⟩;rw [F1.out,F2.out];have h7 : Sat w0 wr (z21 b o (((m : Int),l) :: r) * (z5 .i64 (.slice a3 ids.length c3) ids * F)):=z1W z6 HXDd.out.symm rfl;have h8 : Sat w0 wr (z5 .i64 (.slice a3 ids.length c3) ids * (z21 b o (((m : Int),l) :: r) * F)):=h7.perm (by ac_rfl);exact h8
theorem zne : z1m Tryz.prog 49 209 2 16 (.agg #[.int .i64 0,.int .i64 0]):=⟨by kernel_rfl,by kernel_rfl,rfl⟩
instance : z63 Tryz.prog 49 Ck 2 z5i 209 16 (.agg #[.int .i64 0,.int .i64 0]):=⟨zne,by decide⟩
theorem zmr {S : List Ck} (h : SOk S) (k : Nat) : pre S k < 4294967296:=by
 unfold pre
 split
 ·omega
 ·by_cases hk : k - 1 < S.length
  ·rw [List.getD_eq_getElem?_getD,List.getElem?_eq_getElem hk];exact (h.lf _ (List.getElem_mem hk)).2
  ·rw [List.getD_eq_getElem?_getD,List.getElem?_eq_none (by omega)]
   decide
theorem z9Z (b o : Nat) (S : List Ck) (w0 w : World) (F : HP) (hs : Sat w0 w (z21 b o S * F)) (hok : SOk S) :
  Calls Tryz.prog 59 #[.pointer (some ⟨b,o,none⟩)] w (Ret w0 fun v=>z7 v S * (z21 b o S * F)):=by
 have hl:=z5I hok;obtain ⟨a,c,hs⟩:=z2w hs;have hdl:=z1o 0 S;rw [hdl] at hs;have Hget:=hid (fun k hk=>z6j S k hk);have Hnn:=hid (fun k hk=>z5A hok k hk);have Hlt:=hid (zmr hok);have hlf:=hid hok.lf;clear hok;generalize hD : z0H 0 S = D at *;have HD:=hid hD;clear hD
 go_enter Tryz.func59,Tryz.ntmps59
 go_wp2_with fail
 go_loopw [3,4,14] (fun ov acc i wr=>∃ (k : Nat),k ≤ S.length ∧ i = .int .i64 k ∧ acc = .int .i64 (pre S k) ∧ Sat w0 wr (z7 ov (S.take k) * (pts b o [.slice a S.length c] * (z7 (.slice a S.length c) D * (pts b (o + 1) ((zO S).map Value.bool) * F))))) (fun _ _ i _=>S.length - (intOf i).toNat)
 case atStart =>
  refine ⟨0,Nat.zero_le _,rfl,rfl,?_⟩;rw [List.take_zero,z03,zm];exact hs
 case round =>
  obtain ⟨k,hk,rfl,rfl,hs2⟩:=hrel;clear hs;obtain ⟨a3,c3,rfl⟩:=(hs2.pull (Q:=z7 u3 (S.take k))).recs_form;have hT : (S.take k).length = k:=by rw [List.length_take];omega
  generalize hTk : S.take k = T at *;have HT:=hid hTk;clear hTk;subst hT
  by_cases hlt : T.length < S.length
  ·obtain ⟨g,off,rfl⟩:=(hs2.pull (Q:=z7 (.slice a S.length c) D)).someR (E:=z5i) a S.length c (show 0 < D.length by omega);haveI : Lt T.length D.length:=⟨by omega⟩;have g1:=Hget.out T.length hlt;have p1:=Hnn.out T.length hk;have p2:=Hlt.out T.length;have f1:=hlf.out (S.getD T.length (0,0)) (by simp [List.getD,hlt]);have Hp1 : Hid (pre S (T.length + 1) = (S.getD T.length (0,0)).2):=z4R S T.length;have Ht1 : Hid (S.take (T.length + 1) = T ++ [S.getD T.length (0,0)]):=by
    rw [Hid,List.take_add_one,HT.out,List.getD_eq_getElem?_getD,List.getElem?_eq_getElem hlt];rfl
   generalize S.getD T.length (0,0) = y at *;generalize pre S T.length = p at *;obtain ⟨id,l⟩:=y;dsimp only at f1 g1;obtain ⟨f2,f3⟩:=f1;haveI e0 : z1v (D.getD T.length (0,0)) 0 (.int .i64 id):=⟨by rw [g1];rfl⟩;haveI e1 : z1v (D.getD T.length (0,0)) 1 (.int .i64 (l - p)):=⟨by rw [g1];rfl⟩;clear g1;have hw1 : IntKind.i64.wrap (p + (l - p)) = l:=by rw [IntKind.wrap_i64];omega
   have hw2 : p + (l - p) = l:=by omega
   go_wp2_with (at_builtin;refine zA rfl rfl rfl rfl (by omega) ?_;intro ap ac aL aw ahL ah1 ah2 ahs _);go_roundw
   case rel =>
    refine ⟨T.length + 1,by omega,by go_num,by rw [Hp1.out],?_⟩;rw [Ht1.out];obtain rfl:=ahL.out;exact z3
   case measure=>simp [intOf];omega
  ·obtain rfl : S = T:=by rw [← HT.out,List.take_of_length_le (by omega)]
   go_wp2_with fail;go_ret;refine ⟨_,rfl,?_⟩;have h7 : Sat w0 wr (z21 b o S * (z7 (.slice a3 S.length c3) S * F)):=z1W z6 HD.out.symm rfl;exact h7.perm (by ac_rfl)
theorem zeW (T : List Ck) (y : Ck) (id : Int) : z1M (T ++ [y]) id = z1M T id + if id ≤ y.1 then 1 else 0:=by
 unfold z1M;rw [List.countP_append,List.countP_cons,List.countP_nil]
 by_cases h : id ≤ y.1 <;> simp [h]
theorem zk3 (T : List Ck) (id : Int) : 0 ≤ z1M T id ∧ z1M T id ≤ T.length:=by
 unfold z1M;have:=List.countP_le_length (p:=fun x : Ck=>decide (id ≤ x.1)) (l:=T);omega
theorem za0 (b o : Nat) (S : List Ck) (id : Int) (w0 w : World) (F : HP) (hs : Sat w0 w (z21 b o S * F)) (hok : SOk S) :
  Calls Tryz.prog 237 #[.pointer (some ⟨b,o,none⟩),.int .i64 id] w (zp w0 (.int .i64 (z1M S id)) (z21 b o S * F)):=by
 have hl:=z5I hok;obtain ⟨a,c,hs⟩:=z2w hs;have hdl:=z1o 0 S;rw [hdl] at hs;have Hget:=hid (fun k hk=>z6j S k hk);clear hok;generalize hD : z0H 0 S = D at *;have HD:=hid hD;clear hD
 go_enter Tryz.func237,Tryz.ntmps237
 go_wp2_with fail
 go_loopw [5,15] (fun n i wr=>∃ (k : Nat),k ≤ S.length ∧ i = .int .i64 k ∧ n = .int .i64 (z1M (S.take k) id) ∧ Sat w0 wr (pts b o [.slice a S.length c] * (z7 (.slice a S.length c) D * (pts b (o + 1) ((zO S).map Value.bool) * F)))) (fun _ i _=>S.length - (intOf i).toNat)
 case atStart=>exact ⟨0,Nat.zero_le _,rfl,rfl,hs⟩
 case round =>
  obtain ⟨k,hk,rfl,rfl,hs2⟩:=hrel;clear hs;have hn:=zk3 (S.take k) id;rw [List.length_take] at hn;have hn1 : z1M (S.take k) id ≤ 256:=by omega
  have hn0:=hn.1;clear hn
  by_cases hlt : k < S.length
  ·obtain ⟨g,off,rfl⟩:=(hs2.pull (Q:=z7 (.slice a S.length c) D)).someR (E:=z5i) a S.length c (show 0 < D.length by omega);haveI : Lt k D.length:=⟨by omega⟩;have g1:=Hget.out k hlt;have Ht1 : Hid (z1M (S.take (k + 1)) id = z1M (S.take k) id + if id ≤ (S.getD k (0,0)).1 then 1 else 0):=by
    rw [Hid,List.take_add_one,List.getElem?_eq_getElem hlt,List.getD_eq_getElem?_getD,List.getElem?_eq_getElem hlt];exact zeW _ _ id
   generalize S.getD k (0,0) = y at *;generalize z1M (S.take k) id = m at *;obtain ⟨i1,l1⟩:=y;dsimp only at g1 Ht1;haveI e0 : z1v (D.getD k (0,0)) 0 (.int .i64 i1):=⟨by rw [g1];rfl⟩;clear g1
   by_cases hi : id ≤ i1
   ·rw [if_pos hi] at Ht1;have hd : decide (id ≤ i1) = true:=by simp [hi]
    go_wp2_with fail;go_roundw
    case rel=>exact ⟨k + 1,by omega,by go_num,by rw [Ht1.out],z3⟩
    case measure=>simp [intOf];omega
   ·rw [if_neg hi] at Ht1;have hd : decide (id ≤ i1) = false:=by simp [hi]
    go_wp2_with fail;go_roundw
    case rel=>exact ⟨k + 1,by omega,by go_num,by rw [Ht1.out,Int.add_zero],z3⟩
    case measure=>simp [intOf];omega
  ·have hkS : Hid (S.take k = S):=List.take_of_length_le (by omega);rw [hkS.out] at *;go_wp2_with fail;go_ret;exact ⟨rfl,z1W z6 HD.out.symm rfl⟩
theorem zj5 (b o : Nat) (S : List Ck) (id t : Int) (w0 w : World) (F : HP) (hs : Sat w0 w (z21 b o S * F)) (hok : SOk S) :
  Calls Tryz.prog 37 #[.pointer (some ⟨b,o,none⟩),.int .i64 id,.int .i64 t] w (zp w0 (.int .i64 (znD S id t)) (z21 b o (z5B S id t) * F)):=by
 unfold znD z5B
 by_cases h : zc7 S id t
 ·rw [if_pos h,if_pos h];exact zdD b o S id t w0 w F hs hok h
 ·rw [if_neg h,if_neg h];exact zeP b o S id t w0 w F hs h
theorem zeO (b o : Nat) (S : List Ck) (id : Int) (w0 w : World) (F : HP) (hs : Sat w0 w (z21 b o S * F)) (hok : SOk S) :
  Calls Tryz.prog 161 #[.pointer (some ⟨b,o,none⟩),.int .i64 id] w (zp w0 (.bool (decide (has S id))) (z21 b o (z33 id S) * F)):=by
 by_cases h : has S id
 ·rw [decide_eq_true h];exact z8O b o S id w0 w F hs hok h
 ·rw [decide_eq_false h,z6i h];exact z9Y b o S id w0 w F hs h
theorem zjR (b o : Nat) (S : List Ck) (w0 w : World) (F : HP) (hs : Sat w0 w (z21 b o S * F)) (hok : SOk S) :
  Calls Tryz.prog 78 #[.pointer (some ⟨b,o,none⟩)] w (Ret w0 fun v=>z5 .i64 v (z2H S) * (z21 b o (z2X S) * F)):=by
 cases S with
 | nil=>exact za1 b o w0 w F hs
 | cons x S=>exact za2 b o x S w0 w F hs hok
end Go.Proofs.YthcfimbidmogkaaGreatDoor
namespace Go.Proofs.YthcfimbidmogkaaGreatDoor
open Go.RowKit Go.Sx Go.Lk
def s1 : Lk:=⟨[5,3,1],[5,3,1],[-1, -1, -1],[0,255],[[],[]]⟩
def s2 : Lk:=⟨[5,3,1],[5,3,1],[-1, -1, -1],[0,1],[[],[]]⟩
def s4 : Lk:=⟨[5,3,1],[1,1,1],[-1,0,1],[0,1],[[1],[2]]⟩
theorem r4 : Go.Lk.Reach s4 1 0:=.step (L:=s4) (s:=1) (t:=1) .refl (by decide)
end Go.Proofs.YthcfimbidmogkaaGreatDoor
namespace Go.Proofs.YthcfimbidmogkaaGreatDoor
open Go.RowKit Go.Sx Go.Dl Go.Lk Go.Rq Go.Au
section
variable {P : Program} {f : FuncId} {args : Array Value} {w0 w : World} {P1 P2 Q Q' R F : HP} {v : Value}
theorem z59 (e1 : P1 = Q * R) (e2 : P2 = Q' * R) (hs : Sat w0 w (P1 * F)) (h : Sat w0 w (Q * (R * F)) → Calls P f args w (zp w0 v (Q' * (R * F)))) : Calls P f args w (zp w0 v (P2 * F)) :=
 (h (hs.perm (by rw [e1];ac_rfl))).mono fun e w' hr=>⟨hr.1,hr.2.perm (by rw [e2];ac_rfl)⟩
theorem z69 {A : Value → HP} (e1 : P1 = Q * R) (e2 : P2 = Q' * R) (hs : Sat w0 w (P1 * F)) (h : Sat w0 w (Q * (R * F)) → Calls P f args w (Ret w0 fun v=>A v * (Q' * (R * F)))) : Calls P f args w (Ret w0 fun v=>A v * (P2 * F)) :=
 (h (hs.perm (by rw [e1];ac_rfl))).mono fun e w' hr=>let ⟨v,h1,h2⟩:=hr; ⟨v,h1,h2.perm (by rw [e2];ac_rfl)⟩
theorem zmh (e1 : P1 = Q * R) (e2 : P2 = Q' * R) (hs : Sat w0 w (P1 * F)) (h : Sat w0 w (Q * (R * F)) → Calls P f args w (Ret w0 fun _=>Q' * (R * F))) : Calls P f args w (Ret w0 fun _=>P2 * F) :=
 (h (hs.perm (by rw [e1];ac_rfl))).mono fun e w' hr=>let ⟨v,h1,h2⟩:=hr; ⟨v,h1,h2.perm (by rw [e2];ac_rfl)⟩
end
section
variable (b : Nat) (x : Fx) (c : Cf) (K : Kn) (w0 w : World) (F : HP) (hs : Sat w0 w (knP b x c K * F))
include hs
theorem z6q (hS : SOk K.S) (id : Int) : Calls Tryz.prog 161 #[.pointer (some ⟨b,2,none⟩),.int .i64 id] w (zp w0 (.bool (decide (has K.S id))) (knP b x c (K.wS (z33 id K.S)) * F)) :=
 let ⟨_,h⟩:=zme b x c K;z59 (h K.S) (h _) hs fun hs=>zeO b 2 K.S id w0 w _ hs hS
theorem zdV (hS : SOk K.S) (id t : Int) : Calls Tryz.prog 37 #[.pointer (some ⟨b,2,none⟩),.int .i64 id,.int .i64 t] w (zp w0 (.int .i64 (znD K.S id t)) (knP b x c (K.wS (z5B K.S id t)) * F)) :=
 let ⟨_,h⟩:=zme b x c K;z59 (h K.S) (h _) hs fun hs=>zj5 b 2 K.S id t w0 w _ hs hS
theorem zko (hS : SOk K.S) : Calls Tryz.prog 78 #[.pointer (some ⟨b,2,none⟩)] w (Ret w0 fun v=>z5 .i64 v (z2H K.S) * (knP b x c (K.wS (z2X K.S)) * F)) :=
 let ⟨_,h⟩:=zme b x c K;z69 (h K.S) (h _) hs fun hs=>zjR b 2 K.S w0 w _ hs hS
theorem zm7 (hS : SOk K.S) (id : Int) : Calls Tryz.prog 237 #[.pointer (some ⟨b,2,none⟩),.int .i64 id] w (zp w0 (.int .i64 (z1M K.S id)) (knP b x c K * F)) :=
 let ⟨_,h⟩:=zme b x c K;z59 (h K.S) (h K.S) hs fun hs=>za0 b 2 K.S id w0 w _ hs hS
theorem zm6 (hS : SOk K.S) : Calls Tryz.prog 59 #[.pointer (some ⟨b,2,none⟩)] w (Ret w0 fun v=>z7 v K.S * (knP b x c K * F)) :=
 let ⟨_,h⟩:=zme b x c K;z69 (h K.S) (h K.S) hs fun hs=>z9Z b 2 K.S w0 w _ hs hS
theorem zfp (t l : Nat) (ht : t < 64) (hl : l < 32) : Calls Tryz.prog 115 #[.pointer (some ⟨b,260,none⟩),.int .i64 t,.int .i64 l] w (Ret w0 fun _=>knP b x c (K.wR (z9N K.R t l)) * F) :=
 let ⟨_,h⟩:=zkp b x c K;zmh (h K.R) (h _) hs fun hs=>(zig b 260 K.R t l w0 w _ hs ht hl).mono fun e w' h=>⟨_,h.1,h.2⟩
theorem zd2 (t : Nat) (ht : t < 64) : Calls Tryz.prog 180 #[.pointer (some ⟨b,260,none⟩),.int .i64 t] w (zp w0 (.bool (z1H K.R t).isSome) (knP b x c (K.wR (z5F K.R t)) * F)) :=
 let ⟨_,h⟩:=zkp b x c K;z59 (h K.R) (h _) hs fun hs=>zcd b 260 K.R t w0 w _ hs ht
theorem zkj (t : Nat) (ht : t < 64) : Calls Tryz.prog 189 #[.pointer (some ⟨b,260,none⟩),.int .i64 t] w (zp w0 (.bool (z1H K.R t).isSome) (knP b x c (K.wR (z6e K.R t)) * F)) :=
 let ⟨_,h⟩:=zkp b x c K;z59 (h K.R) (h _) hs fun hs=>zge b 260 K.R t w0 w _ hs ht
theorem zki (t l : Nat) (ht : t < 64) (hl : l < 32) : Calls Tryz.prog 225 #[.pointer (some ⟨b,260,none⟩),.int .i64 t,.int .i64 l] w (zp w0 (.bool (decide (z1H K.R t ≠ none ∧ z1H K.R t ≠ some l))) (knP b x c (K.wR (z6b K.R t l)) * F)) :=
 let ⟨_,h⟩:=zkp b x c K;z59 (h K.R) (h _) hs fun hs=>zgd b 260 K.R t l w0 w _ hs ht hl
theorem zfo (e : z0h K.R = none) : Calls Tryz.prog 132 #[.pointer (some ⟨b,260,none⟩)] w (zp w0 (.tuple #[.int .i64 0,.bool false]) (knP b x c K * F)) :=
 let ⟨_,h⟩:=zkp b x c K;z59 (h K.R) (h K.R) hs fun hs=>z7u b 260 K.R e w0 w _ hs
theorem z1G (t : Nat) (e : z0h K.R = some t) (hT : Tab w0) : Calls Tryz.prog 132 #[.pointer (some ⟨b,260,none⟩)] w (zp w0 (.tuple #[.int .i64 t,.bool true]) (knP b x c K * F)) :=
 let ⟨_,h⟩:=zkp b x c K;z59 (h K.R) (h K.R) hs fun hs=>z7v b 260 K.R t e w0 w _ hs hT
theorem z43 (hL : Fit K.L) : Calls Tryz.prog 120 #[.pointer (some ⟨x.lk,0,none⟩)] w (Ret w0 fun v=>z5 .i64 v K.L.now * (knP b x c K * F)) :=
 let ⟨_,h⟩:=zll b x c K;z69 (h K.L) (h K.L) hs fun hs=>zhG x.lk K.L w0 w _ hs hL
theorem zm8 (hL : Fit K.L) (t : Int) : Calls Tryz.prog 181 #[.pointer (some ⟨x.lk,0,none⟩),.int .i64 t] w (Ret w0 fun v=>z5 .i64 v (z1O K.L t) * (knP b x c K * F)) :=
 let ⟨_,h⟩:=zll b x c K;z69 (h K.L) (h K.L) hs fun hs=>zmi x.lk K.L t w0 w _ hs hL
theorem zkg (hL : Fit K.L) (m : Int) : Calls Tryz.prog 62 #[.pointer (some ⟨x.lk,0,none⟩),.int .i64 m] w (zp w0 (.int .i64 (z1D K.L m)) (knP b x c K * F)) :=
 let ⟨_,h⟩:=zll b x c K;z59 (h K.L) (h K.L) hs fun hs=>zkv x.lk K.L m w0 w _ hs hL
theorem zfw (hL : Fit K.L) (m : Int) : Calls Tryz.prog 63 #[.pointer (some ⟨x.lk,0,none⟩),.int .i64 m] w (Ret w0 fun v=>z5 .i64 v (z2j K.L m) * (knP b x c K * F)) :=
 let ⟨_,h⟩:=zll b x c K;z69 (h K.L) (h K.L) hs fun hs=>zfF x.lk K.L m w0 w _ hs hL
theorem zmb (hL : Good K.L) (t m : Int) : Calls Tryz.prog 226 #[.pointer (some ⟨x.lk,0,none⟩),.int .i64 t,.int .i64 m] w (zp w0 (.tuple #[.bool (z0f K.L t m).1,.int .i64 (z0f K.L t m).2.1]) (knP b x c (K.wL (z1B K.L t m)) * F)):=by
 obtain ⟨_,h⟩:=zll b x c K;refine z59 (h K.L) (h _) hs fun hs=>(zmj x.lk K.L t m w0 w _ hs hL).mono ?_;rintro e w' ⟨h1,now',h2,h3⟩;refine ⟨h1,?_⟩;have e1 : now' = z4U (z0f K.L t m).2.2.own (z0f K.L t m).2.2.ow (z0f K.L t m).2.2.rows:=z4H h2;unfold z1B;rw [← e1];exact h3
theorem zd4 (hL : Good K.L) (t m : Int) : Calls Tryz.prog 182 #[.pointer (some ⟨x.lk,0,none⟩),.int .i64 t,.int .i64 m] w (zp w0 (.tuple #[.int .i64 (zi K.L t m).1,.int .i64 (zi K.L t m).2.1]) (knP b x c (K.wL (zE K.L t m)) * F)):=by
 obtain ⟨_,h⟩:=zll b x c K;refine z59 (h K.L) (h _) hs fun hs=>(zhH x.lk K.L t m w0 w _ hs hL).mono ?_;rintro e w' ⟨h1,now',h2,h3⟩;refine ⟨h1,?_⟩;have e1 : now' = z4U (zi K.L t m).2.2.own (zi K.L t m).2.2.ow (zi K.L t m).2.2.rows:=z4H h2;unfold zE;rw [← e1];exact h3
theorem z4L : Calls Tryz.prog 56 #[.pointer (some ⟨x.ln,0,none⟩)] w (zp w0 (.int .i64 K.ln.active) (knP b x c K * F)) :=
 let ⟨_,h⟩:=zaz b x c K;z59 (h K.ln) (h K.ln) hs fun hs=>zhJ x.ln K.ln w0 w _ hs
theorem zdT : Calls Tryz.prog 57 #[.pointer (some ⟨x.ln,0,none⟩)] w (zp w0 (.int .u32 K.ln.pending) (knP b x c K * F)) :=
 let ⟨_,h⟩:=zaz b x c K;z59 (h K.ln) (h K.ln) hs fun hs=>zfG x.ln K.ln w0 w _ hs
theorem zkc : Calls Tryz.prog 58 #[.pointer (some ⟨x.ln,0,none⟩)] w (zp w0 (.int .u32 K.ln.mask) (knP b x c K * F)) :=
 let ⟨_,h⟩:=zaz b x c K;z59 (h K.ln) (h K.ln) hs fun hs=>zmm x.ln K.ln w0 w _ hs
theorem z91 : Calls Tryz.prog 130 #[.pointer (some ⟨x.ln,0,none⟩)] w (Ret w0 fun _=>knP b x c (K.wLn K.ln.leave) * F) :=
 let ⟨_,h⟩:=zaz b x c K;zmh (h K.ln) (h _) hs fun hs=>zkz x.ln K.ln w0 w _ hs
theorem zma (hl : zgY K.ln) (y : Nat) (hy : y < 4294967296) : Calls Tryz.prog 175 #[.pointer (some ⟨x.ln,0,none⟩),.int .u32 y] w (zp w0 (.tuple #[]) (knP b x c (K.wLn (K.ln.let_ y)) * F)) :=
 let ⟨_,h⟩:=zaz b x c K;z59 (h K.ln) (h _) hs fun hs=>znu x.ln K.ln y w0 w _ hs hl hy
theorem zm9 (hl : zgY K.ln) (n : Nat) (hn : n < 16) : Calls Tryz.prog 129 #[.pointer (some ⟨x.ln,0,none⟩),.int .i64 n] w (zp w0 (.tuple #[]) (knP b x c (K.wLn (K.ln.bar n)) * F)) :=
 let ⟨_,h⟩:=zaz b x c K;z59 (h K.ln) (h _) hs fun hs=>znt x.ln K.ln n w0 w _ hs hl hn
theorem zhy (hl : zgY K.ln) (y : Nat) (hy : y < 4294967296) : Calls Tryz.prog 86 #[.pointer (some ⟨x.ln,0,none⟩),.int .u32 y] w (zp w0 (.tuple #[.int .u32 (y &&& K.ln.all : Nat),.int .u32 ((y &&& K.ln.all) &&& K.ln.pending : Nat)]) (knP b x c (K.wLn (K.ln.raise y)) * F)) :=
 let ⟨_,h⟩:=zaz b x c K;z59 (h K.ln) (h _) hs fun hs=>zkA x.ln K.ln y w0 w _ hs hl hy
theorem zhx (hl : zgY K.ln) (hT : Tab w0) : Calls Tryz.prog 91 #[.pointer (some ⟨x.ln,0,none⟩)] w (zp w0 (.tuple #[.int .i64 (if K.ln.ready then K.ln.enter.active else 0),.bool K.ln.ready]) (knP b x c (K.wLn K.ln.enter) * F)) :=
 let ⟨_,h⟩:=zaz b x c K;z59 (h K.ln) (h _) hs fun hs=>zky x.ln K.ln w0 w _ hs hl hT
end
theorem z6o {c : Cf} {K : Kn} (h : Inv c K) : zgY K.ln:=by
 have hn:=h.cf.nl;have hp : 2 ^ c.ls.length ≤ 2 ^ 16:=Nat.pow_le_pow_right (by decide) hn;have:=h.pnd;have:=h.msk;have e:=h.all;exact ⟨by rw [e];omega,by omega,by omega⟩
theorem z49 {b : Nat} {x : Fx} {c : Cf} {K : Kn} {s : Nat} (h : s < c.sems.length) : ∃ R, ∀ m,knP b x c (K.wSm (upd K.sm s m)) = z3f (x.sb s) m.1 m.2 * R:=by
 obtain ⟨R,h1⟩:=zjg (b:=b) (x:=x) (K:=K) h;exact ⟨pts x.sa.b (x.sa.o + s) [.pointer (some ⟨x.sb s,0,none⟩)] * R,fun m=>by rw [h1];unfold zn2;ac_rfl⟩
theorem z1Q {b : Nat} {x : Fx} {c : Cf} {K : Kn} {s : Nat} (h : s < c.queues.length) : ∃ R, ∀ q,knP b x c (K.wMl (upd K.ml s q)) = mqP (x.qb s) q * R:=by
 obtain ⟨R,h1⟩:=zfy (b:=b) (x:=x) (K:=K) h;exact ⟨pts x.qa.b (x.qa.o + s) [.pointer (some ⟨x.qb s,0,none⟩)] * R,fun q=>by rw [h1];unfold zhP;ac_rfl⟩
section
variable (b : Nat) (x : Fx) (c : Cf) (K : Kn) (w0 w : World) (F : HP) (hs : Sat w0 w (knP b x c K * F)) (s : Nat)
include hs
theorem zkn (h : s < c.sems.length) (ok : z1L (K.sm s).1 (K.sm s).2) : Calls Tryz.prog 227 #[.pointer (some ⟨x.sb s,0,none⟩)] w (zp w0 (.int .i64 (z3t (K.sm s).1)) (knP b x c (K.wSm (upd K.sm s (z2W (K.sm s).1,(K.sm s).2))) * F)) :=
 let ⟨_,e⟩:=z49 (b:=b) (x:=x) (K:=K) h;z59 ((z2C b x c K s).symm.trans (e (K.sm s))) (e _) hs fun hs=>zgw (x.sb s) _ _ w0 w _ hs ok
theorem zhB (h : s < c.sems.length) (ok : z1L (K.sm s).1 (K.sm s).2) (t : Int) : Calls Tryz.prog 228 #[.pointer (some ⟨x.sb s,0,none⟩),.int .i64 t] w (zp w0 (.int .i64 (awaitE (K.sm s).1 (K.sm s).2 t)) (knP b x c (K.wSm (upd K.sm s ((K.sm s).1,z4f (K.sm s).1 (K.sm s).2 t))) * F)) :=
 let ⟨_,e⟩:=z49 (b:=b) (x:=x) (K:=K) h;z59 ((z2C b x c K s).symm.trans (e (K.sm s))) (e _) hs fun hs=>zem (x.sb s) _ _ t w0 w _ hs ok
theorem zkm (h : s < c.sems.length) (ok : z1L (K.sm s).1 (K.sm s).2) (lv : Value) (levels : List Int) (hlv : RdN .i64 w lv levels) : Calls Tryz.prog 119 #[.pointer (some ⟨x.sb s,0,none⟩),lv] w (zp w0 (.tuple #[.int .i64 (z7s levels (K.sm s).2),.int .i64 (Go.Proofs.YthcfimbidmogkaaGreatDoor.postE (K.sm s).1 (K.sm s).2)]) (knP b x c (K.wSm (upd K.sm s (z1Z (K.sm s).1 (K.sm s).2,z2I levels (K.sm s).2))) * F)) :=
 let ⟨_,e⟩:=z49 (b:=b) (x:=x) (K:=K) h;z59 ((z2C b x c K s).symm.trans (e (K.sm s))) (e _) hs fun hs=>zgv (x.sb s) _ _ lv levels w0 w _ hs hlv ok
theorem zfq (h : s < c.sems.length) (ok : z1L (K.sm s).1 (K.sm s).2) (t : Int) : Calls Tryz.prog 116 #[.pointer (some ⟨x.sb s,0,none⟩),.int .i64 t] w (zp w0 (.bool (decide (t ∈ (K.sm s).2))) (knP b x c (K.wSm (upd K.sm s ((K.sm s).1,(K.sm s).2.erase t))) * F)) :=
 let ⟨_,e⟩:=z49 (b:=b) (x:=x) (K:=K) h;z59 ((z2C b x c K s).symm.trans (e (K.sm s))) (e _) hs fun hs=>zcj (x.sb s) _ _ t w0 w _ hs ok
theorem z99 (h : s < c.sems.length) : Calls Tryz.prog 64 #[.pointer (some ⟨x.sb s,0,none⟩)] w (zp w0 (.int .i64 (K.sm s).1) (knP b x c K * F)):=by
 obtain ⟨_,e⟩:=z49 (b:=b) (x:=x) (K:=K) h;refine (zeo (x.sb s) _ _ w0 w _ (hs.perm (by rw [(z2C b x c K s).symm.trans (e (K.sm s))];ac_rfl : _ = z3f (x.sb s) (K.sm s).1 (K.sm s).2 * (_ * F)))).mono ?_;rintro en w' ⟨rfl,rfl⟩;exact ⟨rfl,hs⟩
theorem zdZ (h : s < c.sems.length) (ok : z1L (K.sm s).1 (K.sm s).2) : Calls Tryz.prog 65 #[.pointer (some ⟨x.sb s,0,none⟩)] w (Ret w0 fun v'=>z5 .i64 v' (K.sm s).2 * (knP b x c K * F)) :=
 let ⟨_,e⟩:=z49 (b:=b) (x:=x) (K:=K) h;z69 ((z2C b x c K s).symm.trans (e (K.sm s))) ((z2C b x c K s).symm.trans (e (K.sm s))) hs fun hs=>zb4 (x.sb s) _ _ w0 w _ hs ok
theorem zfj (h : s < c.queues.length) (ok : z3Z (K.ml s)) (v : Int) (lv : Value) (levels : List Int) (hlv : RdN .i64 w lv levels) : Calls Tryz.prog 216 #[.pointer (some ⟨x.qb s,0,none⟩),.int .u32 v,lv] w (zp w0 (.tuple #[.int .i64 ((K.ml s).sendT levels),.int .i64 (K.ml s).sendE]) (knP b x c (K.wMl (upd K.ml s ((K.ml s).send levels v))) * F)) :=
 let ⟨_,e⟩:=z1Q (b:=b) (x:=x) (K:=K) h;z59 ((z0I b x c K s).symm.trans (e (K.ml s))) (e _) hs fun hs=>zhU (x.qb s) _ v lv levels w0 w _ hs hlv ok
theorem zfi (h : s < c.queues.length) (ok : z3Z (K.ml s)) (lv : Value) (levels : List Int) (hst : z6E w0 F .i64 lv levels) : Calls Tryz.prog 219 #[.pointer (some ⟨x.qb s,0,none⟩),lv] w (zp w0 (.tuple #[.int .u32 (K.ml s).recvV,.int .i64 ((K.ml s).recvT levels),.int .i64 (K.ml s).recvE]) (knP b x c (K.wMl (upd K.ml s ((K.ml s).recv levels))) * F)) :=
 let ⟨_,e⟩:=z1Q (b:=b) (x:=x) (K:=K) h;z59 ((z0I b x c K s).symm.trans (e (K.ml s))) (e _) hs fun hs=>zhT (x.qb s) _ lv levels w0 w _ hs (fun w h=>hst w h.drop) ok
theorem zke (h : s < c.queues.length) (ok : z3Z (K.ml s)) (t v : Int) : Calls Tryz.prog 218 #[.pointer (some ⟨x.qb s,0,none⟩),.int .i64 t,.int .u32 v] w (zp w0 (.int .i64 ((K.ml s).holdE t)) (knP b x c (K.wMl (upd K.ml s ((K.ml s).hold t v))) * F)) :=
 let ⟨_,e⟩:=z1Q (b:=b) (x:=x) (K:=K) h;z59 ((z0I b x c K s).symm.trans (e (K.ml s))) (e _) hs fun hs=>zhQ (x.qb s) _ t v w0 w _ hs ok
theorem zhz (h : s < c.queues.length) (ok : z3Z (K.ml s)) (t : Int) : Calls Tryz.prog 220 #[.pointer (some ⟨x.qb s,0,none⟩),.int .i64 t] w (zp w0 (.int .i64 ((K.ml s).awaitE t)) (knP b x c (K.wMl (upd K.ml s ((K.ml s).await t))) * F)) :=
 let ⟨_,e⟩:=z1Q (b:=b) (x:=x) (K:=K) h;z59 ((z0I b x c K s).symm.trans (e (K.ml s))) (e _) hs fun hs=>zfO (x.qb s) _ t w0 w _ hs ok
theorem zan (h : s < c.queues.length) (ok : z3Z (K.ml s)) (t : Int) : Calls Tryz.prog 117 #[.pointer (some ⟨x.qb s,0,none⟩),.int .i64 t] w (zp w0 (.bool (decide ((K.ml s).waits t))) (knP b x c (K.wMl (upd K.ml s ((K.ml s).cancel t))) * F)) :=
 let ⟨_,e⟩:=z1Q (b:=b) (x:=x) (K:=K) h;z59 ((z0I b x c K s).symm.trans (e (K.ml s))) (e _) hs fun hs=>ze4 (x.qb s) _ t w0 w _ hs ok
end
theorem zgT (kd : Int) (h : 1 ≤ kd ∧ kd ≤ 24) (w : World) : Calls Tryz.prog 101 #[.int .i64 kd] w fun e w'=>e = .returned (.bool true) ∧ w = w':=by
 have h0:=h.1;have h1:=h.2
 go_enter Tryz.func101,Tryz.ntmps101
 go_wp2;go_ret;exact ⟨rfl,rfl⟩
theorem zj8 (f kd : Nat) (hf : f < 4294967296) (hk : 1 ≤ kd ∧ kd ≤ 24) (z : Bool) (hz : z1l f kd = z) (w : World) : Calls Tryz.prog 34 #[.int .u32 f,.int .i64 kd] w fun e w'=>e = .returned (.bool z) ∧ w = w':=by
 unfold z1l at hz;rw [decide_eq_true (show 1 ≤ kd ∧ kd ≤ 24 from hk),Bool.true_and] at hz
 by_cases h : kd = 24
 ·subst h;have hz : true = z:=by simpa using hz
  subst hz
  go_enter Tryz.func34,Tryz.ntmps34
  go_wp2_with fail;refine (zgT _ ⟨by omega,by omega⟩ _).mono ?_;rintro en w1 ⟨rfl,rfl⟩;go_wp2_with fail;go_ret;exact ⟨rfl,rfl⟩
 ·rw [decide_eq_false h,Bool.false_or] at hz;have e1 : ((kd : Int) == 24) = false:=by simp;omega
  have hk1 : kd ≤ 24:=hk.2
  cases z
  ·have b1:=zcB hf hz;clear hz h
   go_enter Tryz.func34,Tryz.ntmps34
   go_wp2_with fail;refine (zgT _ ⟨by omega,by omega⟩ _).mono ?_;rintro en w1 ⟨rfl,rfl⟩;go_wp2_with fail;go_ret;exact ⟨rfl,rfl⟩
  ·have b1:=zeG hf hz;clear hz h
   go_enter Tryz.func34,Tryz.ntmps34
   go_wp2_with fail;refine (zgT _ ⟨by omega,by omega⟩ _).mono ?_;rintro en w1 ⟨rfl,rfl⟩;go_wp2_with fail;go_ret;exact ⟨rfl,rfl⟩
theorem zkt (b : Nat) (x : Fx) (c : Cf) (K : Kn) : ∃ R, ∀ n t,knP b x c ((K.wCycle n).wTold t) = pts b 0 [.int .u64 K.count,.int .u64 n] * (z6d b t * (pts b 518 (cfL x.c c) * R)) :=
 ⟨z21 b 2 K.S * (pts b 259 [.int .i64 c.table] * (rdP b 260 K.R * (cfH x.c c *
 (pts b 530 [.int .i64 K.run] * ((ex fun v : Sh=>pts b 531 (cxL K.iat K.irg v.v)) *
 (pts b 541 (kcL x c K.reads K.stopped) *
 (zfR x c K.mems * (zbd x c (fun t=>(K.T t,K.tm t)) *
 (lkP x.lk K.L * (ziv x c K.sm * (zda x c K.ml * lnP x.ln K.ln))))))))))),fun n t=>by unfold knP;dsimp only [Kn.wCycle,Kn.wTold];ac_rfl⟩
instance (k cy co : Int) (a b v : Nat) : zgX zjV [.int .i64 k,.int .u64 cy,.int .u64 co,.int .u32 a,.int .u32 b,.int .u32 v] [⟨k,cy,co,a,b,v⟩]:=⟨rfl⟩
instance (priority:=1090) {α : Type} {sz : Nat} (E : Enc α sz) (w : World) (v : Value) (l : List α) [h : RdC w E v l] : RdC w.drew E v l:=⟨h.rd⟩
theorem zbg {w0 w : World} {F : HP} {b : Nat} {l : List Ev} (hs : Sat w0 w (z6d b l * F)) : ∃ a cap,Sat w0 w (pts b 549 [.slice a l.length cap] * (z7 (.slice a l.length cap) l * F)):=by
 obtain ⟨v,hs⟩:=hs.ex_out;obtain ⟨a,cap,rfl⟩:=(hs.pull (Q:=z7 v l)).recs_form;exact ⟨a,cap,hs.perm (by ac_rfl)⟩
theorem z6A {w0 w : World} {F : HP} {b : Nat} {l : List Ev} {v : Value} (hs : Sat w0 w (pts b 549 [v] * (z7 v l * F))) : Sat w0 w (z6d b l * F) :=
 Sat.ex_in (f:=fun v=>pts b 549 [v] * z7 v l) v (hs.perm (by ac_rfl))
theorem zN (b : Nat) (x : Fx) (c : Cf) (K : Kn) (kd : Nat) (kI : Int) (hkI : kI = kd) (a b' v : Int) (w0 w : World) (F : HP) (hs : Sat w0 w (knP b x c K * F)) (cf : z7T c) (hk : 1 ≤ kd ∧ kd ≤ 24) (ha : zG a) (hb : zG b') (hv : zG v) (hl : K.told.length ≤ 100000) :
  Calls Tryz.prog 81 #[.pointer (some ⟨b,0,none⟩),.int .i64 kI,.int .i64 a,.int .i64 b',.int .u32 v] w (zp w0 (.tuple #[]) (knP b x c (K.tell c kd a b' v) * F)):=by
 obtain ⟨a,rfl⟩:=Int.eq_ofNat_of_zero_le ha.1;obtain ⟨b',rfl⟩:=Int.eq_ofNat_of_zero_le hb.1;obtain ⟨v,rfl⟩:=Int.eq_ofNat_of_zero_le hv.1;have ha1 : (a : Int) < 4294967296:=ha.2;have hb1 : (b' : Int) < 4294967296:=hb.2;have hv1 : (v : Int) < 4294967296:=hv.2;obtain ⟨g,hch⟩:=Int.eq_ofNat_of_zero_le cf.charge.1;have hg : g ≤ 64:=by have:=cf.charge.2;omega
 obtain ⟨R,h⟩:=zkt b x c K;have H:=hid h;have e0 : knP b x c K = pts b 0 [.int .u64 K.count,.int .u64 K.cycle] * (z6d b K.told * (pts b 518 (cfL x.c c) * R)):=h K.cycle K.told;rw [e0] at hs;have hs1 : Sat w0 w (z6d b K.told * (pts b 0 [.int .u64 K.count,.int .u64 K.cycle] * (pts b 518 (cfL x.c c) * (R * F)))):=hs.perm (by ac_rfl);obtain ⟨sa,sc,hs2⟩:=zbg hs1;have hff:=cf.filter;have hP:=hid (fun z hz w=>zj8 c.filter kd hff hk z hz w);clear hs hs1 h e0 ha hb hv hff;subst hkI;have ua : IntKind.u32.wrap (a : Int) = a:=by rw [IntKind.wrap_u32];exact Int.emod_eq_of_lt (by omega) ha1
 have ub : IntKind.u32.wrap (b' : Int) = b':=by rw [IntKind.wrap_u32];exact Int.emod_eq_of_lt (by omega) hb1
 cases hz : z1l c.filter kd
 ·have e1 : K.tell c kd a b' v = K:=by unfold Kn.tell;rw [if_neg (by rw [hz];decide)]
  rw [e1];have Hz:=hid hz;clear hz
  go_enter Tryz.func81,Tryz.ntmps81
  go_wp2_with fail;refine (hP.out false Hz.out _).mono ?_;rintro en w1 ⟨rfl,rfl⟩;go_wp2_with fail
  go_end0
  refine ⟨rfl,?_⟩;have e2 : knP b x c K = pts b 0 [.int .u64 K.count,.int .u64 K.cycle] * (z6d b K.told * (pts b 518 (cfL x.c c) * R)):=H.out K.cycle K.told;rw [e2];exact (z6A hs2).perm (by ac_rfl)
 ·have e1 : K.tell c kd a b' v = (K.wCycle ((K.cycle + c.charge) % 18446744073709551616)).wTold (K.told ++ [⟨kd,K.cycle,K.count,a,b',v⟩]):=by unfold Kn.tell;rw [if_pos hz];rfl
  rw [e1];have e2:=H.out ((K.cycle + c.charge) % 18446744073709551616) (K.told ++ [⟨kd,K.cycle,K.count,a,b',v⟩]);rw [e2];have Hz:=hid hz;clear hz e1 e2;rw [hch]
  go_enter Tryz.func81,Tryz.ntmps81
  go_wp2_with fail;refine (hP.out true Hz.out _).mono ?_;rintro en w1 ⟨rfl,rfl⟩;go_wp2_with fail;refine z9 (w0:=w0) ?_;intro wx hsx;refine zw (fun w'=>Sat w0 w' (pts b 549 [.slice sa K.told.length sc] * (pts b 0 [.int .u64 K.count,.int .u64 K.cycle] * any))) 26 [(0,0),(1,0),(2,0),(3,0),(4,1),(5,0),(6,0),(7,0),(8,0),(9,0),(10,1),(11,0),(12,0),(13,0),(14,0),(15,1),(16,0),(17,0),(18,0),(19,0),(20,0),(21,0),(22,2),(23,2),(24,0),(25,0),(26,2)] (by kernel_rfl) (by kernel_rfl) (fun _ _ _ _ h=>h) zk ?_
  iterate 22 ((first | refine zr fun K hK=>?_ | refine zt fun K hK=>?_);simp only [zqS,zqZ]; (first | (rw [if_pos (by rfl)];apply Exists.intro;refine ⟨fun w hSw=>?_,hK _ ?_⟩; (focus ((try dsimp only at hSw);go_simp;try with_reducible rfl))) | (rw [if_neg (ne_true_of_eq_false (by rfl))];refine hK _ ?_));clear hK K;simp only [Act.put,zqA,zqP,zqQ])
  refine zx (fun K hK=>?_);simp only [zqS,zqZ];rw [if_pos (by rfl)];go_wp2_with fail;refine ⟨fun _=>zk,?_⟩;refine zx (fun K hK=>?_);simp only [zqS,zqZ];rw [if_pos (by rfl)];refine z2J rfl rfl rfl (by omega) ?_;intro ap ac aL aw ahL ah1 ah2 ahs _;refine hK _ _ ⟨fun _=>zk,?_⟩;clear hK K;simp only [Act.put,zqA,zqP,zqQ]
  iterate 2 ((first | refine zr fun K hK=>?_ | refine zt fun K hK=>?_);simp only [zqS,zqZ]; (first | (rw [if_pos (by rfl)];apply Exists.intro;refine ⟨fun w hSw=>?_,hK _ ?_⟩; (focus ((try dsimp only at hSw);go_simp;try with_reducible rfl))) | (rw [if_neg (ne_true_of_eq_false (by rfl))];refine hK _ ?_));clear hK K;simp only [Act.put,zqA,zqP,zqQ])
  refine zx (fun K hK=>?_);simp only [zqS,zqZ];rw [if_pos (by rfl)];go_wp2_with fail;refine ⟨fun h=>absurd rfl h,z0b ?_⟩;go_wp2_with fail;clear hs2 hsx;refine z9 (w0:=w0) ?_;intro wx hsx;go_still_tail 15,(by kernel_rfl);change wpList _ _ _ _ _ wx.drew;go_wp2_with fail
  go_end0
  refine ⟨rfl,?_⟩;unfold Hid at ahL;subst ahL;rw [IntKind.wrap_u64];clear ahs;generalize K.told ++ [({ k:=(kd : Int),cy:=K.cycle,co:=K.count,a:=a,b:=b',v:=v } : Ev)] = L at hsx ⊢;refine Sat.perm (P:=z6d b L * (pts b 0 [.int .u64 K.count,.int .u64 ((K.cycle + (g : Int)) % 18446744073709551616)] * (pts b 518 (cfL x.c c) * (R * F)))) ?_ (by ac_rfl);exact z6A (v:=.slice ap L.length ac) z3
theorem zaw (b : Nat) (x : Fx) (c : Cf) (K : Kn) (w0 w : World) (F : HP) (hs : Sat w0 w (knP b x c K * F)) :
  Calls Tryz.prog 83 #[.pointer (some ⟨b,0,none⟩)] w (Ret w0 fun v=>z7 v K.told * (knP b x c K.take * F)):=by
 obtain ⟨R,h⟩:=zku b x c K;have H:=hid h;rw [show knP b x c K = z6d b K.told * R from h K.told] at hs;obtain ⟨sa,sc,hs2⟩:=zbg (hs.perm (zb _ _ _));clear hs h
 go_enter Tryz.func83,Tryz.ntmps83
 go_wp2_with fail;go_ret;refine ⟨_,rfl,?_⟩;refine Sat.perm (P:=z6d b [] * (z7 (.slice sa K.told.length sc) K.told * (R * F))) ?_ (by rw [show knP b x c K.take = z6d b [] * R from H.out []];ac_rfl);refine z6A (v:=.slice none 0 0) ?_;refine Sat.perm (P:=z7 (α:=Ev) (.slice none 0 0) [] * (pts b 549 [.slice none 0 0] * (z7 (.slice sa K.told.length sc) K.told * (R * F)))) (Sat.slice_nil 6 ?_) (by ac_rfl);exact z3
theorem z8l (b : Nat) (x : Fx) (c : Cf) (K : Kn) (w0 w : World) (F : HP) (hs : Sat w0 w (knP b x c K * F)) (hS : SOk K.S) (z : Bool) (hz : K.noRoom c = z) :
  Calls Tryz.prog 221 #[.pointer (some ⟨b,2,none⟩)] w (zp w0 (.bool z) (knP b x c K * F)):=by
 have hF:=hid (fun w G hs=>zm7 b x c K w0 w G hs hS 64);have Hz:=hid hz;clear hS hz
 go_enter Tryz.func221,Tryz.ntmps221
 go_wp2_with fail;refine zj (fun w'=>Sat w0 w' (knP b x c K * any)) [(0,true),(1,true),(2,true),(4,true),(5,true),(6,true),(7,true),(3,false),(8,true),(9,true)] (by kernel_rfl) (by kernel_rfl) (fun _ _ _ _ h=>h) zq ?_
 iterate 7 (refine zf (fun K hK=>?_);simp only [zqS,zqZ]; (first | (rw [if_pos (by rfl)];apply Exists.intro;refine ⟨fun w hSw=>?_,hK _ ?_⟩; (focus ((try dsimp only at hSw);go_simp;try with_reducible rfl))) | (rw [if_neg (ne_true_of_eq_false (by rfl))];refine hK _ ?_));clear hK K;simp only [Act.put,zqA,zqP,zqQ])
 refine ze (fun K hK=>?_);simp only [zqS,zqZ];rw [if_pos (by rfl)];go_wp2_with fail;refine (hF.out _ _ own).mono ?_;rintro en w1 ⟨rfl,hs1⟩;go_wp2_with fail;refine ⟨zq,?_⟩
 iterate 2 (refine zf (fun K hK=>?_);simp only [zqS,zqZ]; (first | (rw [if_pos (by rfl)];apply Exists.intro;refine ⟨fun w hSw=>?_,hK _ ?_⟩; (focus ((try dsimp only at hSw);go_simp;try with_reducible rfl))) | (rw [if_neg (ne_true_of_eq_false (by rfl))];refine hK _ ?_));clear hK K;simp only [Act.put,zqA,zqP,zqQ])
 refine zB ?_;go_wp2_with fail;go_ret;exact ⟨zgn (by rw [← Hz.out];rfl),hs1⟩
@[go_sem] theorem zni (i : Ins) : z22 i = .agg #[.int .i64 i.op,.int .i64 i.a,.int .i64 i.b,.int .i64 i.c,.int .i64 i.d,.int .u32 i.k]:=rfl
@[go_sem] theorem zk1 (op a b c d k : Int) (w : World) : Sem.run Tryz.prog (Instr.field 68 (.agg #[.int .i64 op,.int .i64 a,.int .i64 b,.int .i64 c,.int .i64 d,.int .u32 k]) 1) w = .ok (.int .i64 a) w:=by kernel_rfl
@[go_sem] theorem zk2 (op a b c d k : Int) (w : World) : Sem.run Tryz.prog (Instr.field 68 (.agg #[.int .i64 op,.int .i64 a,.int .i64 b,.int .i64 c,.int .i64 d,.int .u32 k]) 2) w = .ok (.int .i64 b) w:=by kernel_rfl
theorem zlS (n : Int) (h : -9223372036854775808 ≤ n ∧ n ≤ 9223372036854775807) : IntKind.i64.wrap n = n:=by simp [IntKind.wrap,IntKind.signed,IntKind.bits];omega
theorem zfh (b : Nat) (x : Fx) (c : Cf) (K : Kn) (t : Nat) (w0 w : World) (F : HP) (hs : Sat w0 w (knP b x c K * F)) (cf : z7T c) (ht : t < c.ts.length) (h1 : 1 ≤ (K.T t).at_) (h2 : (K.T t).at_ ≤ (tcg c t).code.length) :
  Calls Tryz.prog 162 #[.pointer (some ⟨b,0,none⟩),.int .i64 t] w (zp w0 (z22 (K.call c t)) (knP b x c K * F)):=by
 have hcl:=(cf.t t ht).2.2.2.2.2;obtain ⟨n,hn⟩:=Int.eq_ofNat_of_zero_le (show 0 ≤ (K.T t).at_ - 1 by omega);have hat : (K.T t).at_ = (n : Int) + 1:=by omega
 have hlt : n < (tcg c t).code.length:=by omega
 have hcall : K.call c t = zM (tcg c t).code n:=by unfold Kn.call;rw [hn]
 rw [hcall];have hnt:=cf.nt;haveI : Lt t c.ts.length:=⟨ht⟩;haveI : Lt n (tcg c t).code.length:=⟨hlt⟩;have a1:=x.ta.ad_pos (show 0 < c.ts.length by omega);have a2:=x.c.ct.ad_pos (show 0 < c.ts.length by omega);have a3:=(x.c.tv t).ad_pos (show 0 < (tcg c t).code.length by omega);have i1 : (t : Int) < (c.ts.length : Int):=by omega
 have i2 : (n : Int) < ((tcg c t).code.length : Int):=by omega
 have d1 : decide (t < c.ts.length) = true:=decide_eq_true ht;have d2 : decide (n < (tcg c t).code.length) = true:=decide_eq_true hlt;have w1 : IntKind.i64.wrap (n : Int) = n:=zlS _ ⟨by omega,by omega⟩;clear hcall hn h1 h2 cf
 go_enter Tryz.func162,Tryz.ntmps162
 go_wp2_with fail;refine z9 (w0:=w0) ?_;intro wx hsx;go_still_tail 21,(by kernel_rfl);change wpList _ _ _ _ _ wx.drew;go_wp2_with fail;go_returns;exact ⟨rfl,z3⟩
theorem zgp {e : Int} (h : 0 ≤ e ∧ e ≤ 16) : zG e:=⟨h.1,by omega⟩
theorem zV (b : Nat) (x : Fx) (c : Cf) (K : Kn) (who cb co : Nat) (hcx : z4b b x c cb co who) (i : Ins) (hi : zI i) (e : Int) (he : 0 ≤ e ∧ e ≤ 16) (w0 w : World) (F : HP) (hs : Sat w0 w (knP b x c K * F)) (cf : z7T c) (hw : who < 80) (hl : K.told.length ≤ 100000) :
  Calls Tryz.prog 176 #[.pointer (some ⟨b,0,none⟩),.int .i64 who,.pointer (some ⟨cb,co,none⟩),z22 i,.int .i64 e] w (zp w0 (.tuple #[]) (knP b x c (K.refuse c who i e) * F)):=by
 have hT:=hid (fun (kI : Int) (v : Int) (hk : kI = 23) (hv : v = i.op) (w : World) (G : HP) (hs : Sat w0 w (knP b x c K * G))=>zN b x c K 23 kI hk who e v w0 w G hs cf (by decide) ⟨by omega,by omega⟩ (zgp he) (by rw [hv];have:=hi.op;exact ⟨by omega,by omega⟩) hl);obtain ⟨op,a,b',c',d,k⟩:=i;obtain ⟨a,rfl⟩:=Int.eq_ofNat_of_zero_le hi.a.1;haveI : Lt a 8:=⟨by have:=hi.a.2;have : (a : Int) < 8:=this;omega⟩;have d1 : decide (a < 8) = true:=decide_eq_true (by have:=hi.a.2;have : (a : Int) < 8:=this;omega);have i1 : (a : Int) < 8:=hi.a.2;have hop1 : 1 ≤ op:=hi.op.1;have hop2 : op ≤ 38:=hi.op.2;have he0 : 0 ≤ e:=he.1;have he1 : e ≤ 16:=he.2;have ue : IntKind.u32.wrap e = e:=by rw [IntKind.wrap_u32];exact Int.emod_eq_of_lt he0 (by omega)
 have uo : IntKind.u32.wrap op = op:=by rw [IntKind.wrap_u32];exact Int.emod_eq_of_lt (by omega) (by omega)
 clear hi he cf;have hR : K.refuse c who ⟨op,a,b',c',d,k⟩ e = (K.tell c 23 who e op).put who a e:=rfl;rw [hR];clear hR
 go_enter Tryz.func176,Tryz.ntmps176
 go_wp2_with fail;refine (hT.out _ _ rfl rfl _ _ own).mono ?_;rintro en w1 ⟨rfl,hs1⟩;clear hs;go_wp2_with fail;refine z9 (w0:=w0) ?_;intro wx hsx;go_still_tail 8,(by kernel_rfl);change wpList _ _ _ _ _ wx.drew;go_wp2_with fail
 go_end0
 exact ⟨rfl,z3⟩
attribute [go_sem] z01 z3V zgF zbe z5M z5L zld zle zgG ziI ziG ziH zer zc
structure z4A (c : Cf) (K : Kn) (t : Nat) : Prop where
 cf : z7T c
 S : SOk K.S
 lt : t < c.ts.length
 at1 : 1 ≤ (K.T t).at_
 at2 : (K.T t).at_ ≤ (tcg c t).code.length
 lev : 0 ≤ (K.T t).lev ∧ (K.T t).lev < 32
 a : 0 ≤ (K.call c t).a ∧ (K.call c t).a < 8
theorem zlg {c : Cf} {K : Kn} {t : Nat} {why a : Int} {na lv : Nat} (h1 : (K.call c t).a = na) (h2 : (K.T t).lev = lv) :
  K.wake c t why a = ((((((K.wS (z33 (64 + t) K.S)).wReg t na a).wSt t 1).wOn t 0).tell c 10 t why 0).wR (z9N (((((K.wS (z33 (64 + t) K.S)).wReg t na a).wSt t 1).wOn t 0).tell c 10 t why 0).R t lv)):=by
 have e : ((((K.wS (z33 (64 + t) K.S)).wReg t na a).wSt t 1).wOn t 0) = { K with S:=z33 (64 + t) K.S }.setT t { K.T t with rg:=(K.T t).rg.set na a,st:=1,on:=0 }:=by
  unfold Kn.wReg Kn.wSt Kn.wOn;simp only [z2V,z8]
  rfl
 rw [e];unfold Kn.wake;rw [h1,h2,Int.toNat_natCast,Int.toNat_natCast]
 rfl
theorem zax (b : Nat) (x : Fx) (c : Cf) (K : Kn) (t : Nat) (o : z4A c K t) (why a : Int) (hwhy : why = 0 ∨ why = 1) (ha : 0 ≤ a ∧ a ≤ 16) (w0 w : World) (F : HP) (hs : Sat w0 w (knP b x c K * F)) (hl : K.told.length ≤ 100000) :
  Calls Tryz.prog 118 #[.pointer (some ⟨b,0,none⟩),.int .i64 t,.int .i64 why,.int .i64 a] w (zp w0 (.tuple #[]) (knP b x c (K.wake c t why a) * F)):=by
 obtain ⟨cf,hS,ht,h1,h2,h3,h4⟩:=o;have hnt:=cf.nt;obtain ⟨na,hna⟩:=Int.eq_ofNat_of_zero_le h4.1;obtain ⟨lv,hlv⟩:=Int.eq_ofNat_of_zero_le h3.1;have hlv32 : lv < 32:=by omega
 haveI : Lt na 8:=⟨by omega⟩;haveI : Lt t c.ts.length:=⟨ht⟩;have a1:=x.ta.ad_pos (show 0 < c.ts.length by omega);have i1 : (t : Int) < (c.ts.length : Int):=by omega
 have i2 : (na : Int) < 8:=by omega
 have d1 : decide (t < c.ts.length) = true:=decide_eq_true ht;have d2 : decide (na < 8) = true:=decide_eq_true (by omega);have ua : IntKind.u32.wrap a = a:=by rw [IntKind.wrap_u32];exact Int.emod_eq_of_lt ha.1 (by omega)
 have hC:=hid (fun w G hs=>z6q b x c K w0 w G hs hS (64 + t));have hCall:=hid (fun (w : World) (G : HP) (hs : Sat w0 w (knP b x c (K.wS (z33 (64 + t) K.S)) * G))=>zfh b x c (K.wS (z33 (64 + t) K.S)) t w0 w G hs cf ht h1 h2);have hna : ((K.wS (z33 (64 + t) K.S)).call c t).a = na:=hna;have hTell:=hid (fun (K' : Kn) (hl : K'.told.length ≤ 100000) (kI : Int) (hk : kI = 10) (w : World) (G : HP) (hs : Sat w0 w (knP b x c K' * G))=>zN b x c K' 10 kI hk t why 0 w0 w G hs cf (by decide) ⟨by omega,by omega⟩ (by rcases hwhy with rfl | rfl <;> exact ⟨by decide,by decide⟩) ⟨by decide,by decide⟩ hl);have Hl:=hid hl;have Ha:=hid ha;clear cf hS h1 h2 h3 h4 hl ha hwhy
 go_enter Tryz.func118,Tryz.ntmps118
 go_wp2_with fail;refine (hC.out _ _ own).mono ?_;rintro en w1 ⟨rfl,hs1⟩;clear hs;go_wp2_with fail;refine z9 (w0:=w0) ?_;intro wx hsx;refine zj (fun _=>True) [(0,true),(1,true),(2,true),(5,true),(6,true),(7,true),(8,true),(9,true),(3,false),(4,true),(10,true),(11,false)] (by kernel_rfl) (by kernel_rfl) (fun _ _ _ _ h=>h) trivial ?_
 iterate 8 (refine zf (fun K hK=>?_);simp only [zqS,zqZ]; (first | (rw [if_pos (by rfl)];apply Exists.intro;refine ⟨fun w hSw=>?_,hK _ ?_⟩; (focus ((try dsimp only at hSw);go_simp;try with_reducible rfl))) | (rw [if_neg (ne_true_of_eq_false (by rfl))];refine hK _ ?_));clear hK K;simp only [Act.put,zqA,zqP,zqQ])
 refine ze (fun K hK=>?_);simp only [zqS,zqZ];rw [if_pos (by rfl)];go_wp2_with fail;refine (hCall.out _ _ z6).mono ?_;rintro en w2 ⟨rfl,hs2⟩;clear hsx hs1;go_wp2_with fail;refine ⟨trivial,?_⟩
 iterate 2 (refine zf (fun K hK=>?_);simp only [zqS,zqZ]; (first | (rw [if_pos (by rfl)];apply Exists.intro;refine ⟨fun w hSw=>?_,hK _ ?_⟩; (focus ((try dsimp only at hSw);go_simp;try with_reducible rfl))) | (rw [if_neg (ne_true_of_eq_false (by rfl))];refine hK _ ?_));clear hK K;simp only [Act.put,zqA,zqP,zqQ])
 refine ze (fun K hK=>?_);simp only [zqS,zqZ];rw [if_pos (by rfl)];go_wp2_with fail;refine ⟨trivial,?_⟩;refine zB ?_;go_wp2_with fail;refine (hTell.out _ ?_ _ rfl _ _ z6).mono ?_
 ·exact Hl.out
 rintro en w3 ⟨rfl,hs3⟩;clear hs2;go_wp2_with fail;refine z9 (w0:=w0) ?_;intro wx hsx;go_still_tail 8,(by kernel_rfl);change wpList _ _ _ _ _ wx.drew;go_wp2_with fail;refine (zfp b x c _ w0 _ _ z6 t lv (by omega) hlv32).mono ?_;rintro en w4 ⟨vr,rfl,hs4⟩;clear hs3 hsx;go_wp2_with fail
 all_goals
  go_end0
  refine ⟨rfl,?_⟩;rw [zlg (K:=K) (show (K.call c t).a = na from hna) hlv];exact hs4
end Go.Proofs.YthcfimbidmogkaaGreatDoor
namespace Go.Sx
open Go.RowKit
theorem Sat.over {w0 w w' : World} {P Q : HP} (hs : Sat w0 w P) (h : Sat w w' Q) : Sat w0 w' (Q * P):=by
 obtain ⟨hp,p,kp⟩:=hs.own;obtain ⟨hq,q,kq⟩:=h.own;have hb : Below w0.heap.size w0 w':=hs.below.trans (h.below.mono hs.below.size);have up : ∀ b o v,hp b o = some v → b < w.heap.size:=fun b o v e=>World.block_lt_of_cell? w _ (kp b o v e).2.1;refine ⟨hb,fun b o=>(hq b o).or (hp b o),?_,?_⟩
 ·refine ⟨hq,hp,fun b o=>?_,fun _ _=>rfl,q,p⟩
  cases e1 : hq b o with
  | none=>exact .inl rfl
  | some v =>
   cases e2 : hp b o with
   | none=>exact .inr rfl
   | some u =>
    have:=(kq b o v e1).1;have:=up b o u e2;omega
 ·intro b o v e;have e : (hq b o).or (hp b o) = some v:=e
  cases e1 : hq b o with
  | some u =>
   rw [e1] at e;obtain rfl : u = v:=by simpa using e
   obtain ⟨k1,k2,k3⟩:=kq b o u e1;exact ⟨Nat.le_trans hs.below.size k1,k2,k3⟩
  | none =>
   rw [e1] at e;have e : hp b o = some v:=by simpa using e
   obtain ⟨k1,k2,k3⟩:=kp b o v e;have hlt:=up b o v e;exact ⟨k1,(h.below.cell (p:=⟨b,o,none⟩) hlt).trans k2,(h.below.frozen (p:=⟨b,o,none⟩) hlt).trans k3⟩
theorem Sat.past {w0 w w' : World} {P : HP} (hs : Sat w0 w P) (h : Sat w w' emp) : Sat w0 w' P:=(hs.over h).perm (zm _)
theorem z2i {w0 : World} {α : Type} {sz : Nat} {E : Enc α sz} {b o : Nat} {l : List α} (h : ∀ j u,(cellsOf l)[j]? = some u → w0.cell? ⟨b,o + j,none⟩ = some u) {k c : Nat} {v : Value} (hk : k < l.length) (hc : c < sz) (he : (E.enc (l.getD k E.dft))[c]? = some v) : w0.cell? ⟨b,o + k * sz + c,none⟩ = some v:=by
 have:=h (k * sz + c) v (by rw [z0Y hk hc];exact he)
 rwa [← Nat.add_assoc] at this
end Go.Sx
namespace Go.Proofs.YthcfimbidmogkaaGreatDoor
open Go.RowKit Go.Sx Go.Dl Go.Lk Go.Rq Go.Au
def ftV (f : Ft) : Value:=.agg #[.int .i64 f.err,.int .i64 f.part,.int .i64 f.index,.int .i64 f.at_]
theorem z0y (n lo hi : Int) (z : Bool) (hz : inR n lo hi = z) (w : World) : Calls Tryz.prog 106 #[.int .i64 n,.int .i64 lo,.int .i64 hi] w fun e w'=>e = .returned (.bool z) ∧ w = w':=by
 subst hz;unfold inR
 by_cases h1 : lo ≤ n
 ·by_cases h2 : n ≤ hi
  ·have d1 : decide (lo ≤ n) = true:=decide_eq_true h1;have d2 : decide (n ≤ hi) = true:=decide_eq_true h2;rw [decide_eq_true (show lo ≤ n ∧ n ≤ hi from ⟨h1,h2⟩)];clear h1 h2
   go_enter Tryz.func106,Tryz.ntmps106
   go_wp2;go_ret;exact ⟨rfl,rfl⟩
  ·have d1 : decide (lo ≤ n) = true:=decide_eq_true h1;have d2 : decide (n ≤ hi) = false:=decide_eq_false h2;rw [decide_eq_false (show ¬ (lo ≤ n ∧ n ≤ hi) from fun h=>h2 h.2)];clear h1 h2
   go_enter Tryz.func106,Tryz.ntmps106
   go_wp2;go_ret;exact ⟨rfl,rfl⟩
 ·have d1 : decide (lo ≤ n) = false:=decide_eq_false h1;rw [decide_eq_false (show ¬ (lo ≤ n ∧ n ≤ hi) from fun h=>h1 h.1)];clear h1
  go_enter Tryz.func106,Tryz.ntmps106
  go_wp2;go_ret;exact ⟨rfl,rfl⟩
theorem z1j (ok : Bool) (part : Int) (w : World) : Calls Tryz.prog 105 #[.bool ok,.int .i64 part] w (zp w (ftV (z8u ok part)) emp):=by
 have hs:=Sat.start w;unfold z8u ftV
 cases ok
 ·go_enter Tryz.func105,Tryz.ntmps105
  go_wp2_with fail;go_returns;exact ⟨rfl,z3⟩
 ·go_enter Tryz.func105,Tryz.ntmps105
  go_wp2_with fail;go_returns;exact ⟨rfl,z3⟩
theorem zl0 {l : List Int} {p lo hi : Int} {k : Nat} (hl : ¬ 32 < l.length) (hk : k < l.length) (h : z4j l lo hi k = true) (hj : ∀ j,j < k → z4j l lo hi j = false) : z84 l p lo hi = ⟨5,p,k,1⟩:=by
 unfold z84;rw [if_neg hl,z2y hk h hj]
theorem zgr {l : List Int} {p lo hi : Int} (hl : ¬ 32 < l.length) (hj : ∀ j,j < l.length → z4j l lo hi j = false) : z84 l p lo hi = ft0:=by
 unfold z84;rw [if_neg hl,z38 hj]
theorem zbq (v : Value) (l : List Int) (part lo hi : Int) (w0 : World) (hr : RdN .i64 w0 v l) : Calls Tryz.prog 107 #[v,.int .i64 part,.int .i64 lo,.int .i64 hi] w0 (zp w0 (ftV (z84 l part lo hi)) emp):=by
 have hs:=Sat.start w0;obtain ⟨a,cap,g,off,rfl,_,hcm,ha,hc⟩:=hr
 by_cases hl : 32 < l.length
 ·have hx : z84 l part lo hi = ⟨4,part,0,0⟩:=by unfold z84;rw [if_pos hl]
  rw [hx];have d1 : decide (32 < l.length) = true:=decide_eq_true hl;have d2 : decide ((32 : Int) < (l.length : Int)) = true:=by simp;omega
  clear ha hc hx
  go_enter Tryz.func107,Tryz.ntmps107
  go_wp2_with fail;go_returns;exact ⟨rfl,z3⟩
 ·have d1 : decide (32 < l.length) = false:=decide_eq_false hl;have d2 : decide ((32 : Int) < (l.length : Int)) = false:=by simp;omega
  have Ha:=hid ha;have Hc:=hid hc;clear ha hc
  go_enter Tryz.func107,Tryz.ntmps107
  go_wp2_with fail;refine z9 (w0:=w0) ?_;intro ww hsw;clear hs
  go_loopw [18] (fun i wr=>∃ k : Nat,k ≤ l.length ∧ i = .int .i64 k ∧ (∀ j,j < k → z4j l lo hi j = false) ∧ Sat w0 wr (pts w0.heap.size 0 [.int .i64 0,.int .i64 0,.int .i64 0,.int .i64 0] * emp)) (fun i _=>l.length - (intOf i).toNat)
  case atStart=>exact ⟨0,Nat.zero_le _,rfl,fun j hj=>absurd hj (by omega),hsw⟩
  case round =>
   obtain ⟨k,hk,rfl,hb,hsr⟩:=hrel;clear hsw;have Hb:=hid hb;clear hb
   by_cases hlt : k < l.length
   ·have d3 : decide (k < l.length) = true:=decide_eq_true hlt;have i3 : (k : Int) < (l.length : Int):=by omega
    obtain rfl:=Ha.out (by intro h;simp [h] at hlt);haveI o1 : Old w0 g (off + k) (.int .i64 (lg l k)):=⟨Hc.out k hlt⟩
    cases hz : inR (lg l k) lo hi
    ·have hx:=hid (zl0 (p:=part) hl hlt (by unfold z4j;rw [hz];rfl) Hb.out);have hI:=hid (fun w=>z0y (lg l k) lo hi false hz w);rw [hx.out];clear hz hx;go_wp2_with fail;refine (hI.out _).mono ?_;rintro en w1 ⟨rfl,rfl⟩;go_wp2_with fail;go_returns;exact ⟨rfl,z3⟩
    ·have hI:=hid (fun w=>z0y (lg l k) lo hi true hz w);have hb2 : Hid (∀ j,j < k + 1 → z4j l lo hi j = false):=hid fun j hj=>by
      rcases Nat.lt_or_ge j k with h | h
      ·exact Hb.out j h
      ·obtain rfl : j = k:=by omega
       unfold z4j;rw [hz];rfl
     clear hz;go_wp2_with fail;refine (hI.out _).mono ?_;rintro en w1 ⟨rfl,rfl⟩;go_wp2_with fail;go_roundw
     case rel=>exact ⟨k + 1,by omega,by go_num,hb2.out,z3⟩
     case measure=>simp [intOf];omega
   ·have hkl : k = l.length:=by omega
    subst hkl;have d3 : decide (l.length < l.length) = false:=by simp
    have hx:=hid (zgr (p:=part) hl Hb.out);clear hlt;go_wp2_with fail
    all_goals
     go_returns;refine ⟨?_,z3⟩;rw [hx.out];rfl
end Go.Proofs.YthcfimbidmogkaaGreatDoor
namespace Go.Proofs.YthcfimbidmogkaaGreatDoor
open Go.RowKit Go.Sx Go.Dl Go.Lk Go.Rq Go.Au
structure Tv where
 lev : Int
 off : Int
 per : Int
 dl : Int
 mem : Int
 ca : Option Addr
 cn : Nat
 cc : Nat
structure Lv where
 mem : Int
 ca : Option Addr
 cn : Nat
 cc : Nat
def Tv.cv (t : Tv) : Value:=.slice t.ca t.cn t.cc
def Lv.cv (t : Lv) : Value:=.slice t.ca t.cn t.cc
abbrev tv0 : Tv:=⟨0,0,0,0,0,none,0,0⟩
abbrev lv0 : Lv:=⟨0,none,0,0⟩
instance z8Q : Enc Tv 6 where
 enc t:=[.int .i64 t.lev,.int .i64 t.off,.int .i64 t.per,.int .i64 t.dl,.int .i64 t.mem,.slice t.ca t.cn t.cc]
 len _:=rfl
 one t:=by intro u hu;simp at hu;rcases hu with rfl | rfl | rfl | rfl | rfl | rfl <;> rfl
 dft:=tv0
 pos:=by decide
instance z8P : Enc Lv 2 where
 enc t:=[.int .i64 t.mem,.slice t.ca t.cn t.cc]
 len _:=rfl
 one t:=by intro u hu;simp at hu;rcases hu with rfl | rfl <;> rfl
 dft:=lv0
 pos:=by decide
structure IsT (w : World) (v : Tv) (t : Tc) : Prop where
 lev : v.lev = t.lev
 off : v.off = t.off
 per : v.per = t.per
 dl : v.dl = t.dl
 mem : v.mem = t.mem
 code : RdR w v.cv t.code
structure IsL (w : World) (v : Lv) (t : Lc) : Prop where
 mem : v.mem = t.mem
 code : RdR w v.cv t.code
def zjD (w : World) (v : Value) (ts : List Tc) : Prop:=∃ l : List Tv,RdR w v l ∧ l.length = ts.length ∧ ∀ t,t < ts.length → IsT w (l.getD t tv0) (ts.getD t tc0)
def zjB (w : World) (v : Value) (ls : List Lc) : Prop:=∃ l : List Lv,RdR w v l ∧ l.length = ls.length ∧ ∀ t,t < ls.length → IsL w (l.getD t lv0) (ls.getD t lc0)
structure z8I (w : World) (v : Value) (c : Cf) : Prop where
 out : ∃ tv lv sv qv mv,v = .agg #[tv,lv,.int .i64 c.mutexes,sv,qv,mv,.int .i64 c.table,.int .u32 c.mask,.int .u32 c.filter,.int .i64 c.charge,.int .u64 c.cycle,.int .u64 c.count] ∧ zjD w tv c.ts ∧ zjB w lv c.ls ∧ RdN .i64 w sv c.sems ∧ RdN .i64 w qv c.queues ∧ RdN .i64 w mv c.timers
theorem zh9 {l : List Ins} {isr : Bool} {p i a : Int} {k : Nat} (hl : ¬ 256 < l.length) (hk : k < l.length) (h : z1V l isr k = true) (hj : ∀ j,j < k → z1V l isr j = false) : z5f l isr p i a = ⟨z1y (zM l k) l.length isr,p,i,a + 1 + k⟩:=by
 unfold z5f;rw [if_neg hl,z2y hk h hj]
theorem zdC {l : List Ins} {isr : Bool} {p i a : Int} (hl : ¬ 256 < l.length) (hj : ∀ j,j < l.length → z1V l isr j = false) : z5f l isr p i a = ft0:=by
 unfold z5f;rw [if_neg hl,z38 hj]
theorem zcF (v : Value) (l : List Ins) (isr : Bool) (e0 part idx a0 at_ : Int) (hat : 0 ≤ at_ ∧ at_ ≤ 100) (hk : ∀ i ∈ l,zG i.k) (w0 : World) (hr : RdR w0 v l) :
  Calls Tryz.prog 155 #[v,.bool isr,.agg #[.int .i64 e0,.int .i64 part,.int .i64 idx,.int .i64 a0],.int .i64 at_] w0 (zp w0 (ftV (z5f l isr part idx at_)) emp):=by
 have hs:=Sat.start w0;obtain ⟨a,cap,g,off,rfl,_,hcm,ha,hc⟩:=hr;have hat0:=hat.1;have hat1:=hat.2
 by_cases hl : 256 < l.length
 ·have hx : z5f l isr part idx at_ = ⟨4,part,idx,at_⟩:=by unfold z5f;rw [if_pos hl]
  rw [hx];have d1 : decide (256 < l.length) = true:=decide_eq_true hl;have d2 : decide ((256 : Int) < (l.length : Int)) = true:=by simp;omega
  clear ha hc hx
  go_enter Tryz.func155,Tryz.ntmps155
  go_wp2_with fail;go_returns;exact ⟨rfl,z3⟩
 ·have d1 : decide (256 < l.length) = false:=decide_eq_false hl;have d2 : decide ((256 : Int) < (l.length : Int)) = false:=by simp;omega
  have Ha:=hid ha;have Hc:=hid hc;have Hk:=hid hk;clear ha hc hk
  go_enter Tryz.func155,Tryz.ntmps155
  go_wp2_with fail;refine z9 (w0:=w0) ?_;intro ww hsw;clear hs
  go_loopw [21] (fun i wr=>∃ k : Nat,k ≤ l.length ∧ i = .int .i64 k ∧ (∀ j,j < k → z1V l isr j = false) ∧ Sat w0 wr (pts w0.heap.size 0 [.int .i64 e0,.int .i64 part,.int .i64 idx,.int .i64 at_] * (pts (w0.heap.size + 1) 0 [.int .i64 0,.int .i64 0,.int .i64 0,.int .i64 0] * any))) (fun i _=>l.length - (intOf i).toNat)
  case atStart=>exact ⟨0,Nat.zero_le _,rfl,fun j hj=>absurd hj (by omega),z3⟩
  case round =>
   obtain ⟨k,hk,rfl,hb,hsr⟩:=hrel;clear hsw;have Hb:=hid hb;clear hb
   by_cases hlt : k < l.length
   ·have d3 : decide (k < l.length) = true:=decide_eq_true hlt;have i3 : (k : Int) < (l.length : Int):=by omega
    obtain rfl:=Ha.out (by intro h;simp [h] at hlt);obtain ⟨i,hi⟩ : ∃ i,i = zM l k:=⟨_,rfl⟩;have hgd : l.getD k zmV = i:=by rw [hi];rfl
    have hik : zG i.k:=Hk.out i (by rw [hi];exact z3C (by omega) (by omega));have hcb : z1V l isr k = decide (z1y i l.length isr ≠ 0):=by unfold z1V;rw [← hi]
    have hbad:=hid fun h=>zh9 (p:=part) (i:=idx) (a:=at_) hl hlt h Hb.out;rw [← hi] at hbad;have oc : ∀ c u,c < 6 → (za3.enc i)[c]? = some u → w0.cell? ⟨g,off + k * 6 + c,none⟩ = some u:=fun c u hc6 he=>z2i Hc.out hlt hc6 (by show (za3.enc (l.getD k zmV))[c]? = some u;rw [hgd];exact he);haveI o0 : Old w0 g (off + k * 6) (.int .i64 i.op):=⟨oc 0 _ (by decide) rfl⟩;haveI o1 : Old w0 g (off + k * 6 + 1) (.int .i64 i.a):=⟨oc 1 _ (by decide) rfl⟩;haveI o2 : Old w0 g (off + k * 6 + 2) (.int .i64 i.b):=⟨oc 2 _ (by decide) rfl⟩;haveI o3 : Old w0 g (off + k * 6 + 3) (.int .i64 i.c):=⟨oc 3 _ (by decide) rfl⟩;haveI o4 : Old w0 g (off + k * 6 + 4) (.int .i64 i.d):=⟨oc 4 _ (by decide) rfl⟩;haveI o5 : Old w0 g (off + k * 6 + 5) (.int .u32 i.k):=⟨oc 5 _ (by decide) rfl⟩;obtain ⟨z,hz⟩ : ∃ z,z = z1y i l.length isr:=⟨_,rfl⟩;have hI:=hid (fun (w : World) (P : HP) (hs : Sat w0 w (pts w0.heap.size 0 [.int .i64 e0,.int .i64 part,.int .i64 idx,.int .i64 at_] * P))=>zhu i l.length isr z hz.symm hik w0 w _ hs);rw [← hz] at hbad hcb;clear oc hgd hi hik
    by_cases hz0 : z = 0
    ·subst hz0;have hb2 : Hid (∀ j,j < k + 1 → z1V l isr j = false):=hid fun j hj=>by
      rcases Nat.lt_or_ge j k with h | h
      ·exact Hb.out j h
      ·obtain rfl : j = k:=by omega
       rw [hcb];simp
     clear hz hcb hbad;go_wp2_with fail;refine (hI.out _ _ own).mono ?_;rintro en w1 ⟨rfl,hs1⟩;go_wp2_with fail;go_roundw
     case rel=>exact ⟨k + 1,by omega,by go_num,hb2.out,z3⟩
     case measure=>simp [intOf];omega
    ·have hx:=hid (hbad.out (by rw [hcb];simp [hz0]));have z1 : (z != 0) = true:=by simp [hz0]
     rw [hx.out];clear hz hcb hbad hz0 hx;go_wp2_with fail;refine (hI.out _ _ own).mono ?_;rintro en w1 ⟨rfl,hs1⟩;go_wp2_with fail;go_returns;exact ⟨rfl,z3⟩
   ·have hkl : k = l.length:=by omega
    subst hkl;have d3 : decide (l.length < l.length) = false:=by simp
    have hx:=hid (zdC (p:=part) (i:=idx) (a:=at_) hl Hb.out);clear hlt;go_wp2_with fail
    all_goals
     go_returns;refine ⟨?_,z3⟩;rw [hx.out];rfl
theorem zha (v : Tv) (t : Tc) (i : Nat) (hi : i < 1000) (hk : ∀ i ∈ t.code,zG i.k) (w0 : World) (hv : IsT w0 v t) :
  Calls Tryz.prog 154 #[.agg #[.int .i64 v.lev,.int .i64 v.off,.int .i64 v.per,.int .i64 v.dl,.int .i64 v.mem,.slice v.ca v.cn v.cc],.int .i64 i] w0 (zp w0 (ftV (z53 t i)) emp):=by
 obtain ⟨h1,h2,h3,h4,h5,h6⟩:=hv;have hC:=hid (fun (w : World) (h : Sat w0 w emp)=>zcF v.cv t.code false 5 1 i 0 6 (by decide) hk w (h6.later h));rw [h1,h2,h3,h4,h5];clear h1 h2 h3 h4 h5 h6 hk;have hs:=Sat.start w0;unfold z53
 cases g1 : inR t.lev 0 31
 ·have hA:=hid (fun w=>z0y t.lev 0 31 false g1 w);clear g1 hC
  go_enter Tryz.func154,Tryz.ntmps154
  go_wp2_with fail;refine (hA.out _).mono ?_;rintro en w1 ⟨rfl,rfl⟩;go_wp2_with fail;go_returns;exact ⟨rfl,z3⟩
 cases g2 : inR t.off 1 1073741824
 ·have hA:=hid (fun w=>z0y t.lev 0 31 true g1 w);have hB:=hid (fun w=>z0y t.off 1 1073741824 false g2 w);clear g1 g2 hC
  go_enter Tryz.func154,Tryz.ntmps154
  go_wp2_with fail;refine (hA.out _).mono ?_;rintro en w1 ⟨rfl,rfl⟩;go_wp2_with fail;refine (hB.out _).mono ?_;rintro en w1 ⟨rfl,rfl⟩;go_wp2_with fail;go_returns;exact ⟨rfl,z3⟩
 cases g3 : inR t.per 0 1073741824
 ·have hA:=hid (fun w=>z0y t.lev 0 31 true g1 w);have hB:=hid (fun w=>z0y t.off 1 1073741824 true g2 w);have hD:=hid (fun w=>z0y t.per 0 1073741824 false g3 w);clear g1 g2 g3 hC
  go_enter Tryz.func154,Tryz.ntmps154
  go_wp2_with fail;refine (hA.out _).mono ?_;rintro en w1 ⟨rfl,rfl⟩;go_wp2_with fail;refine (hB.out _).mono ?_;rintro en w1 ⟨rfl,rfl⟩;go_wp2_with fail;refine (hD.out _).mono ?_;rintro en w1 ⟨rfl,rfl⟩;go_wp2_with fail;go_returns;exact ⟨rfl,z3⟩
 cases g4 : inR t.dl 0 1073741824
 ·have hA:=hid (fun w=>z0y t.lev 0 31 true g1 w);have hB:=hid (fun w=>z0y t.off 1 1073741824 true g2 w);have hD:=hid (fun w=>z0y t.per 0 1073741824 true g3 w);have hE:=hid (fun w=>z0y t.dl 0 1073741824 false g4 w);clear g1 g2 g3 g4 hC
  go_enter Tryz.func154,Tryz.ntmps154
  go_wp2_with fail;refine (hA.out _).mono ?_;rintro en w1 ⟨rfl,rfl⟩;go_wp2_with fail;refine (hB.out _).mono ?_;rintro en w1 ⟨rfl,rfl⟩;go_wp2_with fail;refine (hD.out _).mono ?_;rintro en w1 ⟨rfl,rfl⟩;go_wp2_with fail;refine (hE.out _).mono ?_;rintro en w1 ⟨rfl,rfl⟩;go_wp2_with fail;go_returns;exact ⟨rfl,z3⟩
 cases g5 : inR t.mem 0 256
 ·have hA:=hid (fun w=>z0y t.lev 0 31 true g1 w);have hB:=hid (fun w=>z0y t.off 1 1073741824 true g2 w);have hD:=hid (fun w=>z0y t.per 0 1073741824 true g3 w);have hE:=hid (fun w=>z0y t.dl 0 1073741824 true g4 w);have hF:=hid (fun w=>z0y t.mem 0 256 false g5 w);clear g1 g2 g3 g4 g5 hC
  go_enter Tryz.func154,Tryz.ntmps154
  go_wp2_with fail;refine (hA.out _).mono ?_;rintro en w1 ⟨rfl,rfl⟩;go_wp2_with fail;refine (hB.out _).mono ?_;rintro en w1 ⟨rfl,rfl⟩;go_wp2_with fail;refine (hD.out _).mono ?_;rintro en w1 ⟨rfl,rfl⟩;go_wp2_with fail;refine (hE.out _).mono ?_;rintro en w1 ⟨rfl,rfl⟩;go_wp2_with fail;refine (hF.out _).mono ?_;rintro en w1 ⟨rfl,rfl⟩;go_wp2_with fail;go_returns;exact ⟨rfl,z3⟩
 ·have hA:=hid (fun w=>z0y t.lev 0 31 true g1 w);have hB:=hid (fun w=>z0y t.off 1 1073741824 true g2 w);have hD:=hid (fun w=>z0y t.per 0 1073741824 true g3 w);have hE:=hid (fun w=>z0y t.dl 0 1073741824 true g4 w);have hF:=hid (fun w=>z0y t.mem 0 256 true g5 w);clear g1 g2 g3 g4 g5;rw [if_neg (by simp),if_neg (by simp),if_neg (by simp),if_neg (by simp),if_neg (by simp)];generalize z5f t.code false 1 i 6 = z at *
  go_enter Tryz.func154,Tryz.ntmps154
  go_wp2_with fail;refine (hA.out _).mono ?_;rintro en w1 ⟨rfl,rfl⟩;go_wp2_with fail;refine (hB.out _).mono ?_;rintro en w1 ⟨rfl,rfl⟩;go_wp2_with fail;refine (hD.out _).mono ?_;rintro en w1 ⟨rfl,rfl⟩;go_wp2_with fail;refine (hE.out _).mono ?_;rintro en w1 ⟨rfl,rfl⟩;go_wp2_with fail;refine (hF.out _).mono ?_;rintro en w1 ⟨rfl,rfl⟩;go_wp2_with fail;refine (hC.out _ z3).mono ?_;rintro en w2 ⟨rfl,hs2⟩;have hs3:=Sat.past (w0:=w0) z6 hs2;clear hs2 hs;unfold ftV;go_wp2_with fail;go_returns;exact ⟨rfl,z3⟩
end Go.Proofs.YthcfimbidmogkaaGreatDoor
