/-
  Parts of the proof: StF StG.
-/
import Derived.Test.YtkeommmigopnkaaGreatDoorKF12
import Derived.Test.YtkeommmigopnkaaGreatDoorKF13
set_option linter.unusedVariables false
set_option linter.unusedSimpArgs false
set_option maxHeartbeats 32000000
set_option maxRecDepth 100000
namespace Go.Proofs.YtkeommmigopnkaaGreatDoor
open Go.RowKit Go.Sx Go.Au Go.Hi Go.St
theorem learn_end {B:Bk} {e:Ev} {C:Bk} (h:C=B.learn1 e):(∀ z:Bool,(z=true↔C.Loose)→(z=false→B.learn e=C)∧(z=true→B.learn e=C.untidy 255)):=fun z hz=>by
 subst h;unfold Bk.learn;refine ⟨fun h=>?_,fun h=>?_⟩
 ·rw [if_neg (fun g=>by have:=hz.2 g;rw [h] at this;cases this)]
 ·rw [if_pos (hz.1 h)]
theorem stLearn3 (g:Nat) (n:Nat) (B:Bk) (hB:BOk n B) (hn:n≤64) (M:Int) (hN:Num M B) (hM:M<1000000) (cy co:Int) (a b v:Nat) (he:EvIn n ⟨3,cy,co,a,b,v⟩) (w0 w:World) (F:HP) (hs:Sat w0 w (bkP g B*F)) :
  Calls Tryz.prog 60 #[.pointer (some ⟨g,0,none⟩),evX ⟨3,cy,co,a,b,v⟩] w (RetV w0 (.tuple #[]) (bkP g (B.learn ⟨3,cy,co,a,b,v⟩)*F)):=by
 have hB1:=hB.learn1 he;have hN1:=hN.learn1 ⟨3,cy,co,a,b,v⟩;obtain ⟨C,hC⟩:∃ C,C=B.learn1 ⟨3,cy,co,a,b,v⟩:=⟨_,rfl⟩;have hE:=hid (learn_end hC);rw [← hC] at hB1 hN1;have hL:=hid (fun (w:World) (G:HP) (hs:Sat w0 w (bkP g C*G))=>stLoose g n C hB1 hn w0 w G hs);have hU:=hid (fun (w:World) (G:HP) (hs:Sat w0 w (bkP g C*G))=>stUntidy g n C hB1 hn (by have:=hN1.jobs;omega) 255 w0 w G hs);have hX:=hid (fun (w:World) (G:HP) (mb:Nat) (ta:Option Addr) (tc:Nat) (ja:Option Addr) (jc:Nat) (h:Sat w0 w (pts g 0 [.slice ta (B.ts).length tc,.map (some mb),.int .i64 B.run,.bool true,.slice ja B.jb.length jc]*(recsP (.slice ta (B.ts).length tc) (B.ts)*(mpP mb B.ow*(recsP (.slice ja B.jb.length jc) B.jb*G)))))=>(show Sat w0 w (bkP g C*G) from bk_in2 (B.ts) B.ow B.run true B.jb (by rw [hC];try rfl) (by rw [hC];try rfl) (by rw [hC];try rfl) (by rw [hC];try rfl) (by rw [hC];try rfl) h));clear hC hB1 hN1 he hB hN;obtain ⟨mb,ta,tc,ja,jc,hs⟩:=bk_out hs
 go_enter Tryz.func60,Tryz.ntmps60
 go_wp2_with fail;refine (hL.out _ F (hX.out _ F mb ta tc ja jc ?_)).mono ?_
 ·exact own_left
 rintro en w1 ⟨z,hz,rfl,hs1⟩;have hr0:=hE.out z hz;clear hz
 cases z
 case false =>
  have hr:=hid (hr0.1 rfl);clear hr0;go_wp2_with fail
  go_end0
  rw [hr.out];exact ⟨rfl,own_left⟩
 case true =>
  have hr:=hid (hr0.2 rfl);clear hr0;go_wp2_with fail;refine (hU.out _ F own_left).mono ?_;rintro en w2 ⟨rfl,hs2⟩;go_wp2_with fail
  go_end0
  rw [hr.out];exact ⟨rfl,own_left⟩
theorem stLearn4 (g:Nat) (n:Nat) (B:Bk) (hB:BOk n B) (hn:n≤64) (M:Int) (hN:Num M B) (hM:M<1000000) (cy co:Int) (a b v:Nat) (he:EvIn n ⟨4,cy,co,a,b,v⟩) (w0 w:World) (F:HP) (hs:Sat w0 w (bkP g B*F)) :
  Calls Tryz.prog 60 #[.pointer (some ⟨g,0,none⟩),evX ⟨4,cy,co,a,b,v⟩] w (RetV w0 (.tuple #[]) (bkP g (B.learn ⟨4,cy,co,a,b,v⟩)*F)):=by
 have hB1:=hB.learn1 he;have hN1:=hN.learn1 ⟨4,cy,co,a,b,v⟩;obtain ⟨C,hC⟩:∃ C,C=B.learn1 ⟨4,cy,co,a,b,v⟩:=⟨_,rfl⟩;have hE:=hid (learn_end hC);rw [← hC] at hB1 hN1;have hL:=hid (fun (w:World) (G:HP) (hs:Sat w0 w (bkP g C*G))=>stLoose g n C hB1 hn w0 w G hs);have hU:=hid (fun (w:World) (G:HP) (hs:Sat w0 w (bkP g C*G))=>stUntidy g n C hB1 hn (by have:=hN1.jobs;omega) 255 w0 w G hs);have hX:=hid (fun (w:World) (G:HP) (mb:Nat) (ta:Option Addr) (tc:Nat) (ja:Option Addr) (jc:Nat) (h:Sat w0 w (pts g 0 [.slice ta (B.ts).length tc,.map (some mb),.int .i64 B.run,.bool false,.slice ja B.jb.length jc]*(recsP (.slice ta (B.ts).length tc) (B.ts)*(mpP mb B.ow*(recsP (.slice ja B.jb.length jc) B.jb*G)))))=>(show Sat w0 w (bkP g C*G) from bk_in2 (B.ts) B.ow B.run false B.jb (by rw [hC];try rfl) (by rw [hC];try rfl) (by rw [hC];try rfl) (by rw [hC];try rfl) (by rw [hC];try rfl) h));clear hC hB1 hN1 he hB hN;obtain ⟨mb,ta,tc,ja,jc,hs⟩:=bk_out hs
 go_enter Tryz.func60,Tryz.ntmps60
 go_wp2_with fail;refine (hL.out _ F (hX.out _ F mb ta tc ja jc ?_)).mono ?_
 ·exact own_left
 rintro en w1 ⟨z,hz,rfl,hs1⟩;have hr0:=hE.out z hz;clear hz
 cases z
 case false =>
  have hr:=hid (hr0.1 rfl);clear hr0;go_wp2_with fail
  go_end0
  rw [hr.out];exact ⟨rfl,own_left⟩
 case true =>
  have hr:=hid (hr0.2 rfl);clear hr0;go_wp2_with fail;refine (hU.out _ F own_left).mono ?_;rintro en w2 ⟨rfl,hs2⟩;go_wp2_with fail
  go_end0
  rw [hr.out];exact ⟨rfl,own_left⟩
theorem stLearn5n (g:Nat) (n:Nat) (B:Bk) (hB:BOk n B) (hn:n≤64) (M:Int) (hN:Num M B) (hM:M<1000000) (cy co:Int) (a b v:Nat) (he:EvIn n ⟨5,cy,co,a,b,v⟩) (hb:b=255) (w0 w:World) (F:HP) (hs:Sat w0 w (bkP g B*F)) :
  Calls Tryz.prog 60 #[.pointer (some ⟨g,0,none⟩),evX ⟨5,cy,co,a,b,v⟩] w (RetV w0 (.tuple #[]) (bkP g (B.learn ⟨5,cy,co,a,b,v⟩)*F)):=by
 have hB1:=hB.learn1 he;have hN1:=hN.learn1 ⟨5,cy,co,a,b,v⟩;obtain ⟨C,hC⟩:∃ C,C=B.learn1 ⟨5,cy,co,a,b,v⟩:=⟨_,rfl⟩;have hE:=hid (learn_end hC);rw [← hC] at hB1 hN1;have hL:=hid (fun (w:World) (G:HP) (hs:Sat w0 w (bkP g C*G))=>stLoose g n C hB1 hn w0 w G hs);have hU:=hid (fun (w:World) (G:HP) (hs:Sat w0 w (bkP g C*G))=>stUntidy g n C hB1 hn (by have:=hN1.jobs;omega) 255 w0 w G hs);subst hb;have hC':C={ B with run:=(a:Int) }:=by rw [hC];unfold Bk.learn1;rw [if_neg (show ¬ (5:Int)=3 by decide),if_neg (show ¬ (5:Int)=4 by decide),if_pos rfl];dsimp only;rw [if_neg (fun h=>h.1 rfl)]
 have hX:=hid (fun (w:World) (G:HP) (mb:Nat) (ta:Option Addr) (tc:Nat) (ja:Option Addr) (jc:Nat) (h:Sat w0 w (pts g 0 [.slice ta (B.ts).length tc,.map (some mb),.int .i64 (a:Int),.bool B.ent,.slice ja B.jb.length jc]*(recsP (.slice ta (B.ts).length tc) (B.ts)*(mpP mb B.ow*(recsP (.slice ja B.jb.length jc) B.jb*G)))))=>(show Sat w0 w (bkP g C*G) from bk_in2 (B.ts) B.ow (a:Int) B.ent B.jb (by rw [hC'];try rfl) (by rw [hC'];try rfl) (by rw [hC'];try rfl) (by rw [hC'];try rfl) (by rw [hC'];try rfl) h));clear hC';have ha:a<4294967296:=by have:=he.sa rfl;dsimp only at this;omega
 have u1:IntKind.i64.wrap (a:Int)=a:=by rw [IntKind.wrap_i64];omega
 clear hC hB1 hN1 he hB hN;obtain ⟨mb,ta,tc,ja,jc,hs⟩:=bk_out hs
 go_enter Tryz.func60,Tryz.ntmps60
 go_wp2_with fail;go_quiet (fail);go_wp2_with fail;refine (hL.out _ F (hX.out _ F mb ta tc ja jc ?_)).mono ?_
 ·exact own_left
 rintro en w1 ⟨z,hz,rfl,hs1⟩;have hr0:=hE.out z hz;clear hz
 cases z
 case false =>
  have hr:=hid (hr0.1 rfl);clear hr0;go_wp2_with fail
  go_end0
  rw [hr.out];exact ⟨rfl,own_left⟩
 case true =>
  have hr:=hid (hr0.2 rfl);clear hr0;go_wp2_with fail;refine (hU.out _ F own_left).mono ?_;rintro en w2 ⟨rfl,hs2⟩;go_wp2_with fail
  go_end0
  rw [hr.out];exact ⟨rfl,own_left⟩
theorem stLearn5r (g:Nat) (n:Nat) (B:Bk) (hB:BOk n B) (hn:n≤64) (M:Int) (hN:Num M B) (hM:M<1000000) (cy co:Int) (a b v:Nat) (he:EvIn n ⟨5,cy,co,a,b,v⟩) (hb:b≠255) (hr:(B.t b).rdy=true) (w0 w:World) (F:HP) (hs:Sat w0 w (bkP g B*F)) :
  Calls Tryz.prog 60 #[.pointer (some ⟨g,0,none⟩),evX ⟨5,cy,co,a,b,v⟩] w (RetV w0 (.tuple #[]) (bkP g (B.learn ⟨5,cy,co,a,b,v⟩)*F)):=by
 have hB1:=hB.learn1 he;have hN1:=hN.learn1 ⟨5,cy,co,a,b,v⟩;obtain ⟨C,hC⟩:∃ C,C=B.learn1 ⟨5,cy,co,a,b,v⟩:=⟨_,rfl⟩;have hE:=hid (learn_end hC);rw [← hC] at hB1 hN1;have hL:=hid (fun (w:World) (G:HP) (hs:Sat w0 w (bkP g C*G))=>stLoose g n C hB1 hn w0 w G hs);have hU:=hid (fun (w:World) (G:HP) (hs:Sat w0 w (bkP g C*G))=>stUntidy g n C hB1 hn (by have:=hN1.jobs;omega) 255 w0 w G hs);have hlt:b<n:=(he.sb rfl).resolve_left hb;obtain ⟨mb,ta,tc,ja,jc,hs⟩:=bk_out hs;have hl:b<B.ts.length:=by rw [hB.len];exact hlt
 have hts:B.ts.length≤64:=by rw [hB.len];exact hn
 have d1:decide (b<B.ts.length)=true:=decide_eq_true hl;have i1:(b:Int)<(B.ts.length:Int):=by omega
 haveI:Lt b B.ts.length:=⟨hl⟩;obtain ⟨tg,tq9,rfl⟩:=recs_at (hs.pull (Q:=recsP (.slice ta B.ts.length tc) B.ts)) (by omega);obtain ⟨x,hx⟩:∃ x,x=sg B.ts b:=⟨_,rfl⟩;have hx':B.t b=x:=hx.symm;haveI e0:El B.ts b x:=⟨hx.symm⟩;have ha:a<4294967296:=by have:=he.sa rfl;dsimp only at this;omega
 have u1:IntKind.i64.wrap (a:Int)=a:=by rw [IntKind.wrap_i64];omega
 have e5:((b:Int) != 255)=true:=by simp;omega
 obtain ⟨_,_,⟨t1,t2⟩,_⟩:=hN.t b;rw [hx'] at hr t1 t2;obtain ⟨lev,idle,rdy,on,gone,owns,secs,opn,len,lng,ran,tak,dl⟩:=x;dsimp only at hr t1 t2;subst hr;have u2:IntKind.i64.wrap (tak+1)=tak+1:=by rw [IntKind.wrap_i64];omega
 have hC':C={ B.setS b ⟨lev,idle,true,on,gone,owns,secs,opn,len,lng,ran,tak+1,dl⟩ with run:=(a:Int) }:=by rw [hC];unfold Bk.learn1;rw [if_neg (show ¬ (5:Int)=3 by decide),if_neg (show ¬ (5:Int)=4 by decide),if_pos rfl];dsimp only;rw [hx',if_pos ⟨hb,rfl⟩]
 have hX:=hid (fun (w:World) (G:HP) (mb:Nat) (ta:Option Addr) (tc:Nat) (ja:Option Addr) (jc:Nat) (h:Sat w0 w (pts g 0 [.slice ta (B.ts.set b ⟨lev,idle,true,on,gone,owns,secs,opn,len,lng,ran,tak+1,dl⟩).length tc,.map (some mb),.int .i64 (a:Int),.bool B.ent,.slice ja B.jb.length jc]*(recsP (.slice ta (B.ts.set b ⟨lev,idle,true,on,gone,owns,secs,opn,len,lng,ran,tak+1,dl⟩).length tc) (B.ts.set b ⟨lev,idle,true,on,gone,owns,secs,opn,len,lng,ran,tak+1,dl⟩)*(mpP mb B.ow*(recsP (.slice ja B.jb.length jc) B.jb*G)))))=>(show Sat w0 w (bkP g C*G) from bk_in2 (B.ts.set b ⟨lev,idle,true,on,gone,owns,secs,opn,len,lng,ran,tak+1,dl⟩) B.ow (a:Int) B.ent B.jb (by rw [hC'];try rfl) (by rw [hC'];try rfl) (by rw [hC'];try rfl) (by rw [hC'];try rfl) (by rw [hC'];try rfl) h));clear hC hC' hB1 hN1 he hB hN hx hx' t1 t2
 go_enter Tryz.func60,Tryz.ntmps60
 go_wp2_with fail;go_quiet (fail);go_wp2_with fail;refine wp_gen (w0:=w0) ?_;intro wx hsx;go_still_tail 12,(by kernel_rfl);change wpList _ _ _ _ _ wx.drew;go_wp2_with fail;refine (hL.out _ F (hX.out _ F mb (some ⟨tg,tq9,none⟩) tc ja jc ?_)).mono ?_
 ·rw [List.length_set];exact own_left
 rintro en w1 ⟨z,hz,rfl,hs1⟩;have hr0:=hE.out z hz;clear hz
 cases z
 case false =>
  have hr:=hid (hr0.1 rfl);clear hr0;go_wp2_with fail
  go_end0
  rw [hr.out];exact ⟨rfl,own_left⟩
 case true =>
  have hr:=hid (hr0.2 rfl);clear hr0;go_wp2_with fail;refine (hU.out _ F own_left).mono ?_;rintro en w2 ⟨rfl,hs2⟩;go_wp2_with fail
  go_end0
  rw [hr.out];exact ⟨rfl,own_left⟩
theorem stLearn5w (g:Nat) (n:Nat) (B:Bk) (hB:BOk n B) (hn:n≤64) (M:Int) (hN:Num M B) (hM:M<1000000) (cy co:Int) (a b v:Nat) (he:EvIn n ⟨5,cy,co,a,b,v⟩) (hb:b≠255) (hr:(B.t b).rdy=false) (w0 w:World) (F:HP) (hs:Sat w0 w (bkP g B*F)) :
  Calls Tryz.prog 60 #[.pointer (some ⟨g,0,none⟩),evX ⟨5,cy,co,a,b,v⟩] w (RetV w0 (.tuple #[]) (bkP g (B.learn ⟨5,cy,co,a,b,v⟩)*F)):=by
 have hB1:=hB.learn1 he;have hN1:=hN.learn1 ⟨5,cy,co,a,b,v⟩;obtain ⟨C,hC⟩:∃ C,C=B.learn1 ⟨5,cy,co,a,b,v⟩:=⟨_,rfl⟩;have hE:=hid (learn_end hC);rw [← hC] at hB1 hN1;have hL:=hid (fun (w:World) (G:HP) (hs:Sat w0 w (bkP g C*G))=>stLoose g n C hB1 hn w0 w G hs);have hU:=hid (fun (w:World) (G:HP) (hs:Sat w0 w (bkP g C*G))=>stUntidy g n C hB1 hn (by have:=hN1.jobs;omega) 255 w0 w G hs);have hlt:b<n:=(he.sb rfl).resolve_left hb;obtain ⟨mb,ta,tc,ja,jc,hs⟩:=bk_out hs;have hl:b<B.ts.length:=by rw [hB.len];exact hlt
 have hts:B.ts.length≤64:=by rw [hB.len];exact hn
 have d1:decide (b<B.ts.length)=true:=decide_eq_true hl;have i1:(b:Int)<(B.ts.length:Int):=by omega
 haveI:Lt b B.ts.length:=⟨hl⟩;obtain ⟨tg,tq9,rfl⟩:=recs_at (hs.pull (Q:=recsP (.slice ta B.ts.length tc) B.ts)) (by omega);obtain ⟨x,hx⟩:∃ x,x=sg B.ts b:=⟨_,rfl⟩;have hx':B.t b=x:=hx.symm;haveI e0:El B.ts b x:=⟨hx.symm⟩;have ha:a<4294967296:=by have:=he.sa rfl;dsimp only at this;omega
 have u1:IntKind.i64.wrap (a:Int)=a:=by rw [IntKind.wrap_i64];omega
 have e5:((b:Int) != 255)=true:=by simp;omega
 obtain ⟨_,_,⟨t1,t2⟩,_⟩:=hN.t b;rw [hx'] at hr t1 t2;obtain ⟨lev,idle,rdy,on,gone,owns,secs,opn,len,lng,ran,tak,dl⟩:=x;dsimp only at hr t1 t2;subst hr;have u2:IntKind.i64.wrap (tak+1)=tak+1:=by rw [IntKind.wrap_i64];omega
 have hC':C={ B with run:=(a:Int) }:=by rw [hC];unfold Bk.learn1;rw [if_neg (show ¬ (5:Int)=3 by decide),if_neg (show ¬ (5:Int)=4 by decide),if_pos rfl];dsimp only;rw [hx',if_neg (fun h=>by cases h.2)]
 have hX:=hid (fun (w:World) (G:HP) (mb:Nat) (ta:Option Addr) (tc:Nat) (ja:Option Addr) (jc:Nat) (h:Sat w0 w (pts g 0 [.slice ta (B.ts).length tc,.map (some mb),.int .i64 (a:Int),.bool B.ent,.slice ja B.jb.length jc]*(recsP (.slice ta (B.ts).length tc) (B.ts)*(mpP mb B.ow*(recsP (.slice ja B.jb.length jc) B.jb*G)))))=>(show Sat w0 w (bkP g C*G) from bk_in2 (B.ts) B.ow (a:Int) B.ent B.jb (by rw [hC'];try rfl) (by rw [hC'];try rfl) (by rw [hC'];try rfl) (by rw [hC'];try rfl) (by rw [hC'];try rfl) h));clear hC hC' hB1 hN1 he hB hN hx hx' t1 t2
 go_enter Tryz.func60,Tryz.ntmps60
 go_wp2_with fail;go_quiet (fail);go_wp2_with fail;refine (hL.out _ F (hX.out _ F mb (some ⟨tg,tq9,none⟩) tc ja jc ?_)).mono ?_
 ·exact own_left
 rintro en w1 ⟨z,hz,rfl,hs1⟩;have hr0:=hE.out z hz;clear hz
 cases z
 case false =>
  have hr:=hid (hr0.1 rfl);clear hr0;go_wp2_with fail
  go_end0
  rw [hr.out];exact ⟨rfl,own_left⟩
 case true =>
  have hr:=hid (hr0.2 rfl);clear hr0;go_wp2_with fail;refine (hU.out _ F own_left).mono ?_;rintro en w2 ⟨rfl,hs2⟩;go_wp2_with fail
  go_end0
  rw [hr.out];exact ⟨rfl,own_left⟩
theorem stLearn6 (g:Nat) (n:Nat) (B:Bk) (hB:BOk n B) (hn:n≤64) (M:Int) (hN:Num M B) (hM:M<1000000) (cy co:Int) (a b v:Nat) (he:EvIn n ⟨6,cy,co,a,b,v⟩) (w0 w:World) (F:HP) (hs:Sat w0 w (bkP g B*F)) :
  Calls Tryz.prog 60 #[.pointer (some ⟨g,0,none⟩),evX ⟨6,cy,co,a,b,v⟩] w (RetV w0 (.tuple #[]) (bkP g (B.learn ⟨6,cy,co,a,b,v⟩)*F)):=by
 have hB1:=hB.learn1 he;have hN1:=hN.learn1 ⟨6,cy,co,a,b,v⟩;obtain ⟨C,hC⟩:∃ C,C=B.learn1 ⟨6,cy,co,a,b,v⟩:=⟨_,rfl⟩;have hE:=hid (learn_end hC);rw [← hC] at hB1 hN1;have hL:=hid (fun (w:World) (G:HP) (hs:Sat w0 w (bkP g C*G))=>stLoose g n C hB1 hn w0 w G hs);have hU:=hid (fun (w:World) (G:HP) (hs:Sat w0 w (bkP g C*G))=>stUntidy g n C hB1 hn (by have:=hN1.jobs;omega) 255 w0 w G hs);have hJ:=hid (fun (w:World) (G:HP) (hs:Sat w0 w (bkP g B*G))=>stJob6 g n B hB hn M hN (by omega) cy co a b v (he.a (by dsimp only;omega)) w0 w G hs);rw [show B.job ⟨6,cy,co,a,b,v⟩=C by rw [hC];rfl] at hJ;clear hC hB1 hN1 he hB hN
 go_enter Tryz.func60,Tryz.ntmps60
 go_wp2_with fail;refine (hJ.out _ _ own).mono ?_;rintro en w3 ⟨rfl,hs3⟩;go_wp2_with fail;refine (hL.out _ F own_left).mono ?_;rintro en w1 ⟨z,hz,rfl,hs1⟩;have hr0:=hE.out z hz;clear hz
 cases z
 case false =>
  have hr:=hid (hr0.1 rfl);clear hr0;go_wp2_with fail
  go_end0
  rw [hr.out];exact ⟨rfl,own_left⟩
 case true =>
  have hr:=hid (hr0.2 rfl);clear hr0;go_wp2_with fail;refine (hU.out _ F own_left).mono ?_;rintro en w2 ⟨rfl,hs2⟩;go_wp2_with fail
  go_end0
  rw [hr.out];exact ⟨rfl,own_left⟩
theorem stLearn8 (g:Nat) (n:Nat) (B:Bk) (hB:BOk n B) (hn:n≤64) (M:Int) (hN:Num M B) (hM:M<1000000) (cy co:Int) (a b v:Nat) (he:EvIn n ⟨8,cy,co,a,b,v⟩) (hop:0<(B.t a).opn) (w0 w:World) (F:HP) (hs:Sat w0 w (bkP g B*F)) :
  Calls Tryz.prog 60 #[.pointer (some ⟨g,0,none⟩),evX ⟨8,cy,co,a,b,v⟩] w (RetV w0 (.tuple #[]) (bkP g (B.learn ⟨8,cy,co,a,b,v⟩)*F)):=by
 have hB1:=hB.learn1 he;have hN1:=hN.learn1 ⟨8,cy,co,a,b,v⟩;obtain ⟨C,hC⟩:∃ C,C=B.learn1 ⟨8,cy,co,a,b,v⟩:=⟨_,rfl⟩;have hE:=hid (learn_end hC);rw [← hC] at hB1 hN1;have hL:=hid (fun (w:World) (G:HP) (hs:Sat w0 w (bkP g C*G))=>stLoose g n C hB1 hn w0 w G hs);have hU:=hid (fun (w:World) (G:HP) (hs:Sat w0 w (bkP g C*G))=>stUntidy g n C hB1 hn (by have:=hN1.jobs;omega) 255 w0 w G hs);have hJ:=hid (fun (w:World) (G:HP) (hs:Sat w0 w (bkP g B*G))=>stJob8 g n B hB hn M hN (by omega) cy co a b v (he.a (by dsimp only;omega)) hop w0 w G hs);rw [show B.job ⟨8,cy,co,a,b,v⟩=C by rw [hC];rfl] at hJ;clear hC hB1 hN1 he hB hN;clear hop
 go_enter Tryz.func60,Tryz.ntmps60
 go_wp2_with fail;refine (hJ.out _ _ own).mono ?_;rintro en w3 ⟨rfl,hs3⟩;go_wp2_with fail;refine (hL.out _ F own_left).mono ?_;rintro en w1 ⟨z,hz,rfl,hs1⟩;have hr0:=hE.out z hz;clear hz
 cases z
 case false =>
  have hr:=hid (hr0.1 rfl);clear hr0;go_wp2_with fail
  go_end0
  rw [hr.out];exact ⟨rfl,own_left⟩
 case true =>
  have hr:=hid (hr0.2 rfl);clear hr0;go_wp2_with fail;refine (hU.out _ F own_left).mono ?_;rintro en w2 ⟨rfl,hs2⟩;go_wp2_with fail
  go_end0
  rw [hr.out];exact ⟨rfl,own_left⟩
theorem stLearn12 (g:Nat) (n:Nat) (B:Bk) (hB:BOk n B) (hn:n≤64) (M:Int) (hN:Num M B) (hM:M<1000000) (cy co:Int) (a b v:Nat) (he:EvIn n ⟨12,cy,co,a,b,v⟩) (w0 w:World) (F:HP) (hs:Sat w0 w (bkP g B*F)) :
  Calls Tryz.prog 60 #[.pointer (some ⟨g,0,none⟩),evX ⟨12,cy,co,a,b,v⟩] w (RetV w0 (.tuple #[]) (bkP g (B.learn ⟨12,cy,co,a,b,v⟩)*F)):=by
 have hB1:=hB.learn1 he;have hN1:=hN.learn1 ⟨12,cy,co,a,b,v⟩;obtain ⟨C,hC⟩:∃ C,C=B.learn1 ⟨12,cy,co,a,b,v⟩:=⟨_,rfl⟩;have hE:=hid (learn_end hC);rw [← hC] at hB1 hN1;have hL:=hid (fun (w:World) (G:HP) (hs:Sat w0 w (bkP g C*G))=>stLoose g n C hB1 hn w0 w G hs);have hU:=hid (fun (w:World) (G:HP) (hs:Sat w0 w (bkP g C*G))=>stUntidy g n C hB1 hn (by have:=hN1.jobs;omega) 255 w0 w G hs);have hJ:=hid (fun (w:World) (G:HP) (hs:Sat w0 w (bkP g B*G))=>stOwner g n B hB hn M hN (by omega) ⟨12,cy,co,a,b,v⟩ (by dsimp only;omega) (he.a (by dsimp only;omega)) w0 w G hs);rw [show B.owner (⟨12,cy,co,a,b,v⟩:Ev).k (⟨12,cy,co,a,b,v⟩:Ev).a (⟨12,cy,co,a,b,v⟩:Ev).b=C by rw [hC];rfl] at hJ;clear hC hB1 hN1 he hB hN
 go_enter Tryz.func60,Tryz.ntmps60
 go_wp2_with fail;refine (hJ.out _ _ own).mono ?_;rintro en w3 ⟨rfl,hs3⟩;go_wp2_with fail;refine (hL.out _ F own_left).mono ?_;rintro en w1 ⟨z,hz,rfl,hs1⟩;have hr0:=hE.out z hz;clear hz
 cases z
 case false =>
  have hr:=hid (hr0.1 rfl);clear hr0;go_wp2_with fail
  go_end0
  rw [hr.out];exact ⟨rfl,own_left⟩
 case true =>
  have hr:=hid (hr0.2 rfl);clear hr0;go_wp2_with fail;refine (hU.out _ F own_left).mono ?_;rintro en w2 ⟨rfl,hs2⟩;go_wp2_with fail
  go_end0
  rw [hr.out];exact ⟨rfl,own_left⟩
theorem stLearn13 (g:Nat) (n:Nat) (B:Bk) (hB:BOk n B) (hn:n≤64) (M:Int) (hN:Num M B) (hM:M<1000000) (cy co:Int) (a b v:Nat) (he:EvIn n ⟨13,cy,co,a,b,v⟩) (w0 w:World) (F:HP) (hs:Sat w0 w (bkP g B*F)) :
  Calls Tryz.prog 60 #[.pointer (some ⟨g,0,none⟩),evX ⟨13,cy,co,a,b,v⟩] w (RetV w0 (.tuple #[]) (bkP g (B.learn ⟨13,cy,co,a,b,v⟩)*F)):=by
 have hB1:=hB.learn1 he;have hN1:=hN.learn1 ⟨13,cy,co,a,b,v⟩;obtain ⟨C,hC⟩:∃ C,C=B.learn1 ⟨13,cy,co,a,b,v⟩:=⟨_,rfl⟩;have hE:=hid (learn_end hC);rw [← hC] at hB1 hN1;have hL:=hid (fun (w:World) (G:HP) (hs:Sat w0 w (bkP g C*G))=>stLoose g n C hB1 hn w0 w G hs);have hU:=hid (fun (w:World) (G:HP) (hs:Sat w0 w (bkP g C*G))=>stUntidy g n C hB1 hn (by have:=hN1.jobs;omega) 255 w0 w G hs);have hJ:=hid (fun (w:World) (G:HP) (hs:Sat w0 w (bkP g B*G))=>stOwner g n B hB hn M hN (by omega) ⟨13,cy,co,a,b,v⟩ (by dsimp only;omega) (he.a (by dsimp only;omega)) w0 w G hs);rw [show B.owner (⟨13,cy,co,a,b,v⟩:Ev).k (⟨13,cy,co,a,b,v⟩:Ev).a (⟨13,cy,co,a,b,v⟩:Ev).b=C by rw [hC];rfl] at hJ;clear hC hB1 hN1 he hB hN
 go_enter Tryz.func60,Tryz.ntmps60
 go_wp2_with fail;refine (hJ.out _ _ own).mono ?_;rintro en w3 ⟨rfl,hs3⟩;go_wp2_with fail;refine (hL.out _ F own_left).mono ?_;rintro en w1 ⟨z,hz,rfl,hs1⟩;have hr0:=hE.out z hz;clear hz
 cases z
 case false =>
  have hr:=hid (hr0.1 rfl);clear hr0;go_wp2_with fail
  go_end0
  rw [hr.out];exact ⟨rfl,own_left⟩
 case true =>
  have hr:=hid (hr0.2 rfl);clear hr0;go_wp2_with fail;refine (hU.out _ F own_left).mono ?_;rintro en w2 ⟨rfl,hs2⟩;go_wp2_with fail
  go_end0
  rw [hr.out];exact ⟨rfl,own_left⟩
theorem stLearn10 (g:Nat) (n:Nat) (B:Bk) (hB:BOk n B) (hn:n≤64) (M:Int) (hN:Num M B) (hM:M<1000000) (cy co:Int) (a b v:Nat) (he:EvIn n ⟨10,cy,co,a,b,v⟩) (w0 w:World) (F:HP) (hs:Sat w0 w (bkP g B*F)) :
  Calls Tryz.prog 60 #[.pointer (some ⟨g,0,none⟩),evX ⟨10,cy,co,a,b,v⟩] w (RetV w0 (.tuple #[]) (bkP g (B.learn ⟨10,cy,co,a,b,v⟩)*F)):=by
 have hB1:=hB.learn1 he;have hN1:=hN.learn1 ⟨10,cy,co,a,b,v⟩;obtain ⟨C,hC⟩:∃ C,C=B.learn1 ⟨10,cy,co,a,b,v⟩:=⟨_,rfl⟩;have hE:=hid (learn_end hC);rw [← hC] at hB1 hN1;have hL:=hid (fun (w:World) (G:HP) (hs:Sat w0 w (bkP g C*G))=>stLoose g n C hB1 hn w0 w G hs);have hU:=hid (fun (w:World) (G:HP) (hs:Sat w0 w (bkP g C*G))=>stUntidy g n C hB1 hn (by have:=hN1.jobs;omega) 255 w0 w G hs);have hlt:a<n:=he.a (by dsimp only;omega);obtain ⟨mb,ta,tc,ja,jc,hs⟩:=bk_out hs;have hl:a<B.ts.length:=by rw [hB.len];exact hlt
 have hts:B.ts.length≤64:=by rw [hB.len];exact hn
 have d1:decide (a<B.ts.length)=true:=decide_eq_true hl;have i1:(a:Int)<(B.ts.length:Int):=by omega
 haveI:Lt a B.ts.length:=⟨hl⟩;obtain ⟨tg,tq9,rfl⟩:=recs_at (hs.pull (Q:=recsP (.slice ta B.ts.length tc) B.ts)) (by omega);obtain ⟨x,hx⟩:∃ x,x=sg B.ts a:=⟨_,rfl⟩;have hx':B.t a=x:=hx.symm;haveI e0:El B.ts a x:=⟨hx.symm⟩;obtain ⟨lev,idle,rdy,on,gone,owns,secs,opn,len,lng,ran,tak,dl⟩:=x;have hC':C=B.setS a ⟨lev,idle,true,on,gone,owns,secs,opn,len,lng,ran,tak,dl⟩:=by rw [hC];show B.setS a { B.t a with rdy:=true }=_;rw [hx']
 have hX:=hid (fun (w:World) (G:HP) (mb:Nat) (ta:Option Addr) (tc:Nat) (ja:Option Addr) (jc:Nat) (h:Sat w0 w (pts g 0 [.slice ta (B.ts.set a ⟨lev,idle,true,on,gone,owns,secs,opn,len,lng,ran,tak,dl⟩).length tc,.map (some mb),.int .i64 B.run,.bool B.ent,.slice ja B.jb.length jc]*(recsP (.slice ta (B.ts.set a ⟨lev,idle,true,on,gone,owns,secs,opn,len,lng,ran,tak,dl⟩).length tc) (B.ts.set a ⟨lev,idle,true,on,gone,owns,secs,opn,len,lng,ran,tak,dl⟩)*(mpP mb B.ow*(recsP (.slice ja B.jb.length jc) B.jb*G)))))=>(show Sat w0 w (bkP g C*G) from bk_in2 (B.ts.set a ⟨lev,idle,true,on,gone,owns,secs,opn,len,lng,ran,tak,dl⟩) B.ow B.run B.ent B.jb (by rw [hC'];try rfl) (by rw [hC'];try rfl) (by rw [hC'];try rfl) (by rw [hC'];try rfl) (by rw [hC'];try rfl) h));clear hC hC' hB1 hN1 he hB hN hx hx'
 go_enter Tryz.func60,Tryz.ntmps60
 go_wp2_with fail;refine wp_gen (w0:=w0) ?_;intro wx hsx;go_still_tail 8,(by kernel_rfl);change wpList _ _ _ _ _ wx.drew;go_wp2_with fail;refine (hL.out _ F (hX.out _ F mb (some ⟨tg,tq9,none⟩) tc ja jc ?_)).mono ?_
 ·rw [List.length_set];exact own_left
 rintro en w1 ⟨z,hz,rfl,hs1⟩;have hr0:=hE.out z hz;clear hz
 cases z
 case false =>
  have hr:=hid (hr0.1 rfl);clear hr0;go_wp2_with fail
  go_end0
  rw [hr.out];exact ⟨rfl,own_left⟩
 case true =>
  have hr:=hid (hr0.2 rfl);clear hr0;go_wp2_with fail;refine (hU.out _ F own_left).mono ?_;rintro en w2 ⟨rfl,hs2⟩;go_wp2_with fail
  go_end0
  rw [hr.out];exact ⟨rfl,own_left⟩
theorem stLearn9m (g:Nat) (n:Nat) (B:Bk) (hB:BOk n B) (hn:n≤64) (M:Int) (hN:Num M B) (hM:M<1000000) (cy co:Int) (a b v:Nat) (he:EvIn n ⟨9,cy,co,a,b,v⟩) (hm:mtx b=true) (w0 w:World) (F:HP) (hs:Sat w0 w (bkP g B*F)) :
  Calls Tryz.prog 60 #[.pointer (some ⟨g,0,none⟩),evX ⟨9,cy,co,a,b,v⟩] w (RetV w0 (.tuple #[]) (bkP g (B.learn ⟨9,cy,co,a,b,v⟩)*F)):=by
 have hB1:=hB.learn1 he;have hN1:=hN.learn1 ⟨9,cy,co,a,b,v⟩;obtain ⟨C,hC⟩:∃ C,C=B.learn1 ⟨9,cy,co,a,b,v⟩:=⟨_,rfl⟩;have hE:=hid (learn_end hC);rw [← hC] at hB1 hN1;have hL:=hid (fun (w:World) (G:HP) (hs:Sat w0 w (bkP g C*G))=>stLoose g n C hB1 hn w0 w G hs);have hU:=hid (fun (w:World) (G:HP) (hs:Sat w0 w (bkP g C*G))=>stUntidy g n C hB1 hn (by have:=hN1.jobs;omega) 255 w0 w G hs);have hlt:a<n:=he.a (by dsimp only;omega);have u1:IntKind.i64.wrap (a:Int)=a:=by rw [IntKind.wrap_i64];omega
 have hMx:=hid (fun (w:World)=>stMutex b w);rw [hm] at hMx;obtain ⟨mb,ta,tc,ja,jc,hs⟩:=bk_out hs;have hl:a<B.ts.length:=by rw [hB.len];exact hlt
 have hts:B.ts.length≤64:=by rw [hB.len];exact hn
 have d1:decide (a<B.ts.length)=true:=decide_eq_true hl;have i1:(a:Int)<(B.ts.length:Int):=by omega
 haveI:Lt a B.ts.length:=⟨hl⟩;obtain ⟨tg,tq9,rfl⟩:=recs_at (hs.pull (Q:=recsP (.slice ta B.ts.length tc) B.ts)) (by omega);obtain ⟨x,hx⟩:∃ x,x=sg B.ts a:=⟨_,rfl⟩;have hx':B.t a=x:=hx.symm;haveI e0:El B.ts a x:=⟨hx.symm⟩;obtain ⟨lev,idle,rdy,on,gone,owns,secs,opn,len,lng,ran,tak,dl⟩:=x;have hC':C=B.setS a ⟨lev,idle,false,b,gone,owns,secs,opn,len,lng,ran,tak,dl⟩:=by rw [hC];show (if mtx b then B.setS a { B.t a with rdy:=false,on:=b } else (B.setS a { B.t a with rdy:=false,on:=b }).untidy a)=_;rw [hm,if_pos rfl,hx']
 have hX:=hid (fun (w:World) (G:HP) (mb:Nat) (ta:Option Addr) (tc:Nat) (ja:Option Addr) (jc:Nat) (h:Sat w0 w (pts g 0 [.slice ta (B.ts.set a ⟨lev,idle,false,b,gone,owns,secs,opn,len,lng,ran,tak,dl⟩).length tc,.map (some mb),.int .i64 B.run,.bool B.ent,.slice ja B.jb.length jc]*(recsP (.slice ta (B.ts.set a ⟨lev,idle,false,b,gone,owns,secs,opn,len,lng,ran,tak,dl⟩).length tc) (B.ts.set a ⟨lev,idle,false,b,gone,owns,secs,opn,len,lng,ran,tak,dl⟩)*(mpP mb B.ow*(recsP (.slice ja B.jb.length jc) B.jb*G)))))=>(show Sat w0 w (bkP g C*G) from bk_in2 (B.ts.set a ⟨lev,idle,false,b,gone,owns,secs,opn,len,lng,ran,tak,dl⟩) B.ow B.run B.ent B.jb (by rw [hC'];try rfl) (by rw [hC'];try rfl) (by rw [hC'];try rfl) (by rw [hC'];try rfl) (by rw [hC'];try rfl) h));clear hC hC' hB1 hN1 he hB hN hx hx' hm
 go_enter Tryz.func60,Tryz.ntmps60
 go_wp2_with fail;refine wp_gen (w0:=w0) ?_;intro wx hsx;refine wp_region_early (fun w'=>Sat w0 w' (pts g 0 [.slice (some ⟨tg,tq9,none⟩) B.ts.length tc,.map (some mb),.int .i64 B.run,.bool B.ent,.slice ja B.jb.length jc]*(pts w.heap.size 0 [.int .i64 9,.int .u64 cy,.int .u64 co,.int .u32 a,.int .u32 b,.int .u32 v]*any))) [(0,true),(1,true),(2,true),(3,true),(4,true),(5,true),(6,true),(7,true),(8,true),(9,true),(10,true),(11,true),(12,true),(13,true),(14,true),(15,true),(16,false),(17,true),(18,true),(19,false)] (by kernel_rfl) (by kernel_rfl) (fun _ _ _ _ h=>h) own_any2 ?_
 iterate 16 (first | refine early_S ?_ | refine early_N ?_)
 refine early_G rfl (by rfl) (fun K hK=>?_);go_wp2_with fail
 (first | refine ⟨own_any2,?_⟩ | skip)
 iterate 2 (first | refine early_S ?_ | refine early_N ?_)
 refine early_G rfl (by rfl) (fun K hK=>?_);go_wp2_with fail
 (first | refine ⟨own_any2,?_⟩ | skip)
 (first | refine early_done ?_ | skip)
 go_wp2_with fail;refine (hMx.out _).mono ?_;rintro en w3 ⟨rfl,rfl⟩;go_wp2_with fail;refine (hL.out _ F (hX.out _ F mb (some ⟨tg,tq9,none⟩) tc ja jc ?_)).mono ?_
 ·rw [List.length_set];exact own_left
 rintro en w1 ⟨z,hz,rfl,hs1⟩;have hr0:=hE.out z hz;clear hz
 cases z
 case false =>
  have hr:=hid (hr0.1 rfl);clear hr0;go_wp2_with fail
  go_end0
  rw [hr.out];exact ⟨rfl,own_left⟩
 case true =>
  have hr:=hid (hr0.2 rfl);clear hr0;go_wp2_with fail;refine (hU.out _ F own_left).mono ?_;rintro en w2 ⟨rfl,hs2⟩;go_wp2_with fail
  go_end0
  rw [hr.out];exact ⟨rfl,own_left⟩
theorem stLearn9u (g:Nat) (n:Nat) (B:Bk) (hB:BOk n B) (hn:n≤64) (M:Int) (hN:Num M B) (hM:M<1000000) (cy co:Int) (a b v:Nat) (he:EvIn n ⟨9,cy,co,a,b,v⟩) (hm:mtx b=false) (w0 w:World) (F:HP) (hs:Sat w0 w (bkP g B*F)) :
  Calls Tryz.prog 60 #[.pointer (some ⟨g,0,none⟩),evX ⟨9,cy,co,a,b,v⟩] w (RetV w0 (.tuple #[]) (bkP g (B.learn ⟨9,cy,co,a,b,v⟩)*F)):=by
 have hB1:=hB.learn1 he;have hN1:=hN.learn1 ⟨9,cy,co,a,b,v⟩;obtain ⟨C,hC⟩:∃ C,C=B.learn1 ⟨9,cy,co,a,b,v⟩:=⟨_,rfl⟩;have hE:=hid (learn_end hC);rw [← hC] at hB1 hN1;have hL:=hid (fun (w:World) (G:HP) (hs:Sat w0 w (bkP g C*G))=>stLoose g n C hB1 hn w0 w G hs);have hU:=hid (fun (w:World) (G:HP) (hs:Sat w0 w (bkP g C*G))=>stUntidy g n C hB1 hn (by have:=hN1.jobs;omega) 255 w0 w G hs);have hlt:a<n:=he.a (by dsimp only;omega);have u1:IntKind.i64.wrap (a:Int)=a:=by rw [IntKind.wrap_i64];omega
 have hMx:=hid (fun (w:World)=>stMutex b w);rw [hm] at hMx;obtain ⟨mb,ta,tc,ja,jc,hs⟩:=bk_out hs;have hl:a<B.ts.length:=by rw [hB.len];exact hlt
 have hts:B.ts.length≤64:=by rw [hB.len];exact hn
 have d1:decide (a<B.ts.length)=true:=decide_eq_true hl;have i1:(a:Int)<(B.ts.length:Int):=by omega
 haveI:Lt a B.ts.length:=⟨hl⟩;obtain ⟨tg,tq9,rfl⟩:=recs_at (hs.pull (Q:=recsP (.slice ta B.ts.length tc) B.ts)) (by omega);obtain ⟨x,hx⟩:∃ x,x=sg B.ts a:=⟨_,rfl⟩;have hx':B.t a=x:=hx.symm;haveI e0:El B.ts a x:=⟨hx.symm⟩;obtain ⟨lev,idle,rdy,on,gone,owns,secs,opn,len,lng,ran,tak,dl⟩:=x;obtain ⟨D,hD⟩:∃ D,D=B.setS a ⟨lev,idle,false,b,gone,owns,secs,opn,len,lng,ran,tak,dl⟩:=⟨_,rfl⟩;have hC':C=D.untidy a:=by rw [hC,hD];show (if mtx b then B.setS a { B.t a with rdy:=false,on:=b } else (B.setS a { B.t a with rdy:=false,on:=b }).untidy a)=_;rw [hm,if_neg (by decide),hx']
 have hoa:=hB.t a;rw [hx'] at hoa;have hDB:BOk n D:=by rw [hD];exact hB.setS hoa
 have hUa:=hid (fun (w:World) (G:HP) (hs:Sat w0 w (bkP g D*G))=>stUntidy g n D hDB hn (by have:=hN.jobs;rw [hD];show B.jb.length≤1000000;omega) a w0 w G hs);rw [← hC'] at hUa;have hX:=hid (fun (w:World) (G:HP) (mb:Nat) (ta:Option Addr) (tc:Nat) (ja:Option Addr) (jc:Nat) (h:Sat w0 w (pts g 0 [.slice ta (B.ts.set a ⟨lev,idle,false,b,gone,owns,secs,opn,len,lng,ran,tak,dl⟩).length tc,.map (some mb),.int .i64 B.run,.bool B.ent,.slice ja B.jb.length jc]*(recsP (.slice ta (B.ts.set a ⟨lev,idle,false,b,gone,owns,secs,opn,len,lng,ran,tak,dl⟩).length tc) (B.ts.set a ⟨lev,idle,false,b,gone,owns,secs,opn,len,lng,ran,tak,dl⟩)*(mpP mb B.ow*(recsP (.slice ja B.jb.length jc) B.jb*G)))))=>(show Sat w0 w (bkP g D*G) from bk_in2 (B.ts.set a ⟨lev,idle,false,b,gone,owns,secs,opn,len,lng,ran,tak,dl⟩) B.ow B.run B.ent B.jb (by rw [hD];try rfl) (by rw [hD];try rfl) (by rw [hD];try rfl) (by rw [hD];try rfl) (by rw [hD];try rfl) h));clear hC hC' hD hDB hoa hB1 hN1 he hB hN hx hx' hm
 go_enter Tryz.func60,Tryz.ntmps60
 go_wp2_with fail;refine wp_gen (w0:=w0) ?_;intro wx hsx;refine wp_region_early (fun w'=>Sat w0 w' (pts g 0 [.slice (some ⟨tg,tq9,none⟩) B.ts.length tc,.map (some mb),.int .i64 B.run,.bool B.ent,.slice ja B.jb.length jc]*(pts w.heap.size 0 [.int .i64 9,.int .u64 cy,.int .u64 co,.int .u32 a,.int .u32 b,.int .u32 v]*any))) [(0,true),(1,true),(2,true),(3,true),(4,true),(5,true),(6,true),(7,true),(8,true),(9,true),(10,true),(11,true),(12,true),(13,true),(14,true),(15,true),(16,false),(17,true),(18,true),(19,false)] (by kernel_rfl) (by kernel_rfl) (fun _ _ _ _ h=>h) own_any2 ?_
 iterate 16 (first | refine early_S ?_ | refine early_N ?_)
 refine early_G rfl (by rfl) (fun K hK=>?_);go_wp2_with fail
 (first | refine ⟨own_any2,?_⟩ | skip)
 iterate 2 (first | refine early_S ?_ | refine early_N ?_)
 refine early_G rfl (by rfl) (fun K hK=>?_);go_wp2_with fail
 (first | refine ⟨own_any2,?_⟩ | skip)
 (first | refine early_done ?_ | skip)
 go_wp2_with fail;refine (hMx.out _).mono ?_;rintro en w3 ⟨rfl,rfl⟩;go_wp2_with fail;refine (hUa.out _ F (hX.out _ F mb (some ⟨tg,tq9,none⟩) tc ja jc ?_)).mono ?_
 ·rw [List.length_set];exact own_left
 rintro en w4 ⟨rfl,hs4⟩;go_wp2_with fail;refine (hL.out _ F own_left).mono ?_;rintro en w1 ⟨z,hz,rfl,hs1⟩;have hr0:=hE.out z hz;clear hz
 cases z
 case false =>
  have hr:=hid (hr0.1 rfl);clear hr0;go_wp2_with fail
  go_end0
  rw [hr.out];exact ⟨rfl,own_left⟩
 case true =>
  have hr:=hid (hr0.2 rfl);clear hr0;go_wp2_with fail;refine (hU.out _ F own_left).mono ?_;rintro en w2 ⟨rfl,hs2⟩;go_wp2_with fail
  go_end0
  rw [hr.out];exact ⟨rfl,own_left⟩
theorem stLearn21 (g:Nat) (n:Nat) (B:Bk) (hB:BOk n B) (hn:n≤64) (M:Int) (hN:Num M B) (hM:M<1000000) (cy co:Int) (a b v:Nat) (he:EvIn n ⟨21,cy,co,a,b,v⟩) (h64:a<64) (w0 w:World) (F:HP) (hs:Sat w0 w (bkP g B*F)) :
  Calls Tryz.prog 60 #[.pointer (some ⟨g,0,none⟩),evX ⟨21,cy,co,a,b,v⟩] w (RetV w0 (.tuple #[]) (bkP g (B.learn ⟨21,cy,co,a,b,v⟩)*F)):=by
 have hB1:=hB.learn1 he;have hN1:=hN.learn1 ⟨21,cy,co,a,b,v⟩;obtain ⟨C,hC⟩:∃ C,C=B.learn1 ⟨21,cy,co,a,b,v⟩:=⟨_,rfl⟩;have hE:=hid (learn_end hC);rw [← hC] at hB1 hN1;have hL:=hid (fun (w:World) (G:HP) (hs:Sat w0 w (bkP g C*G))=>stLoose g n C hB1 hn w0 w G hs);have hU:=hid (fun (w:World) (G:HP) (hs:Sat w0 w (bkP g C*G))=>stUntidy g n C hB1 hn (by have:=hN1.jobs;omega) 255 w0 w G hs);have hlt:a<n:=he.f rfl h64;have d2:decide ((a:Int)<64)=true:=decide_eq_true (by omega);obtain ⟨mb,ta,tc,ja,jc,hs⟩:=bk_out hs;have hl:a<B.ts.length:=by rw [hB.len];exact hlt
 have hts:B.ts.length≤64:=by rw [hB.len];exact hn
 have d1:decide (a<B.ts.length)=true:=decide_eq_true hl;have i1:(a:Int)<(B.ts.length:Int):=by omega
 haveI:Lt a B.ts.length:=⟨hl⟩;obtain ⟨tg,tq9,rfl⟩:=recs_at (hs.pull (Q:=recsP (.slice ta B.ts.length tc) B.ts)) (by omega);obtain ⟨x,hx⟩:∃ x,x=sg B.ts a:=⟨_,rfl⟩;have hx':B.t a=x:=hx.symm;haveI e0:El B.ts a x:=⟨hx.symm⟩;obtain ⟨lev,idle,rdy,on,gone,owns,secs,opn,len,lng,ran,tak,dl⟩:=x;have hC':C=B.setS a ⟨lev,idle,false,on,true,owns,secs,opn,len,lng,ran,tak,dl⟩:=by rw [hC];show (if a<64 then B.setS a { B.t a with rdy:=false,gone:=true } else B)=_;rw [if_pos (by omega),hx']
 have hX:=hid (fun (w:World) (G:HP) (mb:Nat) (ta:Option Addr) (tc:Nat) (ja:Option Addr) (jc:Nat) (h:Sat w0 w (pts g 0 [.slice ta (B.ts.set a ⟨lev,idle,false,on,true,owns,secs,opn,len,lng,ran,tak,dl⟩).length tc,.map (some mb),.int .i64 B.run,.bool B.ent,.slice ja B.jb.length jc]*(recsP (.slice ta (B.ts.set a ⟨lev,idle,false,on,true,owns,secs,opn,len,lng,ran,tak,dl⟩).length tc) (B.ts.set a ⟨lev,idle,false,on,true,owns,secs,opn,len,lng,ran,tak,dl⟩)*(mpP mb B.ow*(recsP (.slice ja B.jb.length jc) B.jb*G)))))=>(show Sat w0 w (bkP g C*G) from bk_in2 (B.ts.set a ⟨lev,idle,false,on,true,owns,secs,opn,len,lng,ran,tak,dl⟩) B.ow B.run B.ent B.jb (by rw [hC'];try rfl) (by rw [hC'];try rfl) (by rw [hC'];try rfl) (by rw [hC'];try rfl) (by rw [hC'];try rfl) h));clear hC hC' hB1 hN1 he hB hN hx hx'
 go_enter Tryz.func60,Tryz.ntmps60
 go_wp2_with fail;refine wp_gen (w0:=w0) ?_;intro wx hsx;refine wp_region_early (fun w'=>Sat w0 w' (pts g 0 [.slice (some ⟨tg,tq9,none⟩) B.ts.length tc,.map (some mb),.int .i64 B.run,.bool B.ent,.slice ja B.jb.length jc]*(pts w.heap.size 0 [.int .i64 21,.int .u64 cy,.int .u64 co,.int .u32 a,.int .u32 b,.int .u32 v]*any))) [(0,true),(1,true),(2,true),(3,true),(4,true),(5,true),(6,true),(7,true),(8,true),(9,true),(10,true),(11,true),(12,true),(13,true),(14,false),(15,true),(16,true),(17,false)] (by kernel_rfl) (by kernel_rfl) (fun _ _ _ _ h=>h) own_any2 ?_
 iterate 14 (first | refine early_S ?_ | refine early_N ?_)
 refine early_G rfl (by rfl) (fun K hK=>?_);go_wp2_with fail
 (first | refine ⟨own_any2,?_⟩ | skip)
 iterate 2 (first | refine early_S ?_ | refine early_N ?_)
 refine early_G rfl (by rfl) (fun K hK=>?_);go_wp2_with fail
 (first | refine ⟨own_any2,?_⟩ | skip)
 (first | refine early_done ?_ | skip)
 go_wp2_with fail;refine (hL.out _ F (hX.out _ F mb (some ⟨tg,tq9,none⟩) tc ja jc ?_)).mono ?_
 ·rw [List.length_set];exact own_left
 rintro en w1 ⟨z,hz,rfl,hs1⟩;have hr0:=hE.out z hz;clear hz
 cases z
 case false =>
  have hr:=hid (hr0.1 rfl);clear hr0;go_wp2_with fail
  go_end0
  rw [hr.out];exact ⟨rfl,own_left⟩
 case true =>
  have hr:=hid (hr0.2 rfl);clear hr0;go_wp2_with fail;refine (hU.out _ F own_left).mono ?_;rintro en w2 ⟨rfl,hs2⟩;go_wp2_with fail
  go_end0
  rw [hr.out];exact ⟨rfl,own_left⟩
theorem stLearn22 (g:Nat) (n:Nat) (B:Bk) (hB:BOk n B) (hn:n≤64) (M:Int) (hN:Num M B) (hM:M<1000000) (cy co:Int) (a b v:Nat) (he:EvIn n ⟨22,cy,co,a,b,v⟩) (w0 w:World) (F:HP) (hs:Sat w0 w (bkP g B*F)) :
  Calls Tryz.prog 60 #[.pointer (some ⟨g,0,none⟩),evX ⟨22,cy,co,a,b,v⟩] w (RetV w0 (.tuple #[]) (bkP g (B.learn ⟨22,cy,co,a,b,v⟩)*F)):=by
 have hB1:=hB.learn1 he;have hN1:=hN.learn1 ⟨22,cy,co,a,b,v⟩;obtain ⟨C,hC⟩:∃ C,C=B.learn1 ⟨22,cy,co,a,b,v⟩:=⟨_,rfl⟩;have hE:=hid (learn_end hC);rw [← hC] at hB1 hN1;have hL:=hid (fun (w:World) (G:HP) (hs:Sat w0 w (bkP g C*G))=>stLoose g n C hB1 hn w0 w G hs);have hU:=hid (fun (w:World) (G:HP) (hs:Sat w0 w (bkP g C*G))=>stUntidy g n C hB1 hn (by have:=hN1.jobs;omega) 255 w0 w G hs);have hlt:a<n:=he.a (by dsimp only;omega);have d2:decide ((a:Int)<64)=true:=decide_eq_true (by omega);obtain ⟨mb,ta,tc,ja,jc,hs⟩:=bk_out hs;have hl:a<B.ts.length:=by rw [hB.len];exact hlt
 have hts:B.ts.length≤64:=by rw [hB.len];exact hn
 have d1:decide (a<B.ts.length)=true:=decide_eq_true hl;have i1:(a:Int)<(B.ts.length:Int):=by omega
 haveI:Lt a B.ts.length:=⟨hl⟩;obtain ⟨tg,tq9,rfl⟩:=recs_at (hs.pull (Q:=recsP (.slice ta B.ts.length tc) B.ts)) (by omega);obtain ⟨x,hx⟩:∃ x,x=sg B.ts a:=⟨_,rfl⟩;have hx':B.t a=x:=hx.symm;haveI e0:El B.ts a x:=⟨hx.symm⟩;obtain ⟨lev,idle,rdy,on,gone,owns,secs,opn,len,lng,ran,tak,dl⟩:=x;have hC':C=B.setS a ⟨lev,idle,false,on,true,owns,secs,opn,len,lng,ran,tak,dl⟩:=by rw [hC];show (if a<64 then B.setS a { B.t a with rdy:=false,gone:=true } else B)=_;rw [if_pos (by omega),hx']
 have hX:=hid (fun (w:World) (G:HP) (mb:Nat) (ta:Option Addr) (tc:Nat) (ja:Option Addr) (jc:Nat) (h:Sat w0 w (pts g 0 [.slice ta (B.ts.set a ⟨lev,idle,false,on,true,owns,secs,opn,len,lng,ran,tak,dl⟩).length tc,.map (some mb),.int .i64 B.run,.bool B.ent,.slice ja B.jb.length jc]*(recsP (.slice ta (B.ts.set a ⟨lev,idle,false,on,true,owns,secs,opn,len,lng,ran,tak,dl⟩).length tc) (B.ts.set a ⟨lev,idle,false,on,true,owns,secs,opn,len,lng,ran,tak,dl⟩)*(mpP mb B.ow*(recsP (.slice ja B.jb.length jc) B.jb*G)))))=>(show Sat w0 w (bkP g C*G) from bk_in2 (B.ts.set a ⟨lev,idle,false,on,true,owns,secs,opn,len,lng,ran,tak,dl⟩) B.ow B.run B.ent B.jb (by rw [hC'];try rfl) (by rw [hC'];try rfl) (by rw [hC'];try rfl) (by rw [hC'];try rfl) (by rw [hC'];try rfl) h));clear hC hC' hB1 hN1 he hB hN hx hx'
 go_enter Tryz.func60,Tryz.ntmps60
 go_wp2_with fail;refine wp_gen (w0:=w0) ?_;intro wx hsx;refine wp_region_early (fun w'=>Sat w0 w' (pts g 0 [.slice (some ⟨tg,tq9,none⟩) B.ts.length tc,.map (some mb),.int .i64 B.run,.bool B.ent,.slice ja B.jb.length jc]*(pts w.heap.size 0 [.int .i64 22,.int .u64 cy,.int .u64 co,.int .u32 a,.int .u32 b,.int .u32 v]*any))) [(0,true),(1,true),(2,true),(3,true),(4,true),(5,true),(6,true),(7,true),(8,true),(9,true),(10,true),(11,true),(12,true),(13,true),(14,false),(15,true),(16,true),(17,false)] (by kernel_rfl) (by kernel_rfl) (fun _ _ _ _ h=>h) own_any2 ?_
 iterate 14 (first | refine early_S ?_ | refine early_N ?_)
 refine early_G rfl (by rfl) (fun K hK=>?_);go_wp2_with fail
 (first | refine ⟨own_any2,?_⟩ | skip)
 iterate 2 (first | refine early_S ?_ | refine early_N ?_)
 refine early_G rfl (by rfl) (fun K hK=>?_);go_wp2_with fail
 (first | refine ⟨own_any2,?_⟩ | skip)
 (first | refine early_done ?_ | skip)
 go_wp2_with fail;refine (hL.out _ F (hX.out _ F mb (some ⟨tg,tq9,none⟩) tc ja jc ?_)).mono ?_
 ·rw [List.length_set];exact own_left
 rintro en w1 ⟨z,hz,rfl,hs1⟩;have hr0:=hE.out z hz;clear hz
 cases z
 case false =>
  have hr:=hid (hr0.1 rfl);clear hr0;go_wp2_with fail
  go_end0
  rw [hr.out];exact ⟨rfl,own_left⟩
 case true =>
  have hr:=hid (hr0.2 rfl);clear hr0;go_wp2_with fail;refine (hU.out _ F own_left).mono ?_;rintro en w2 ⟨rfl,hs2⟩;go_wp2_with fail
  go_end0
  rw [hr.out];exact ⟨rfl,own_left⟩
theorem stLearn21n (g:Nat) (n:Nat) (B:Bk) (hB:BOk n B) (hn:n≤64) (M:Int) (hN:Num M B) (hM:M<1000000) (cy co:Int) (a b v:Nat) (he:EvIn n ⟨21,cy,co,a,b,v⟩) (h64:¬ a<64) (w0 w:World) (F:HP) (hs:Sat w0 w (bkP g B*F)) :
  Calls Tryz.prog 60 #[.pointer (some ⟨g,0,none⟩),evX ⟨21,cy,co,a,b,v⟩] w (RetV w0 (.tuple #[]) (bkP g (B.learn ⟨21,cy,co,a,b,v⟩)*F)):=by
 have hB1:=hB.learn1 he;have hN1:=hN.learn1 ⟨21,cy,co,a,b,v⟩;obtain ⟨C,hC⟩:∃ C,C=B.learn1 ⟨21,cy,co,a,b,v⟩:=⟨_,rfl⟩;have hE:=hid (learn_end hC);rw [← hC] at hB1 hN1;have hL:=hid (fun (w:World) (G:HP) (hs:Sat w0 w (bkP g C*G))=>stLoose g n C hB1 hn w0 w G hs);have hU:=hid (fun (w:World) (G:HP) (hs:Sat w0 w (bkP g C*G))=>stUntidy g n C hB1 hn (by have:=hN1.jobs;omega) 255 w0 w G hs);have hC2:C=B:=by rw [hC];show (if a<64 then _ else B)=B;rw [if_neg h64]
 have d2:decide ((a:Int)<64)=false:=decide_eq_false (by omega);clear hC hB1 hN1 he hB hN;subst hC2
 go_enter Tryz.func60,Tryz.ntmps60
 go_wp2_with fail;refine (hL.out _ F own_left).mono ?_;rintro en w1 ⟨z,hz,rfl,hs1⟩;have hr0:=hE.out z hz;clear hz
 cases z
 case false =>
  have hr:=hid (hr0.1 rfl);clear hr0;go_wp2_with fail
  go_end0
  rw [hr.out];exact ⟨rfl,own_left⟩
 case true =>
  have hr:=hid (hr0.2 rfl);clear hr0;go_wp2_with fail;refine (hU.out _ F own_left).mono ?_;rintro en w2 ⟨rfl,hs2⟩;go_wp2_with fail
  go_end0
  rw [hr.out];exact ⟨rfl,own_left⟩
theorem stLearnO (g:Nat) (n:Nat) (B:Bk) (hB:BOk n B) (hn:n≤64) (M:Int) (hN:Num M B) (hM:M<1000000) (k:Int) (cy co:Int) (a b v:Nat) (he:EvIn n ⟨k,cy,co,a,b,v⟩) (hk:k≠3∧k≠4∧k≠5∧k≠6∧k≠8∧k≠9∧k≠10∧k≠12∧k≠13∧k≠21∧k≠22) (w0 w:World) (F:HP) (hs:Sat w0 w (bkP g B*F)) :
  Calls Tryz.prog 60 #[.pointer (some ⟨g,0,none⟩),evX ⟨k,cy,co,a,b,v⟩] w (RetV w0 (.tuple #[]) (bkP g (B.learn ⟨k,cy,co,a,b,v⟩)*F)):=by
 have hB1:=hB.learn1 he;have hN1:=hN.learn1 ⟨k,cy,co,a,b,v⟩;obtain ⟨C,hC⟩:∃ C,C=B.learn1 ⟨k,cy,co,a,b,v⟩:=⟨_,rfl⟩;have hE:=hid (learn_end hC);rw [← hC] at hB1 hN1;have hL:=hid (fun (w:World) (G:HP) (hs:Sat w0 w (bkP g C*G))=>stLoose g n C hB1 hn w0 w G hs);have hU:=hid (fun (w:World) (G:HP) (hs:Sat w0 w (bkP g C*G))=>stUntidy g n C hB1 hn (by have:=hN1.jobs;omega) 255 w0 w G hs);have hC2:C=B:=by rw [hC];exact learn1_other B hk
 obtain ⟨k1,k2,k3,k4,k5,k6,k7,k8,k9,k10,k11⟩:=hk;have f1:(k==3)=false:=by simp [k1]
 have f2:(k==4)=false:=by simp [k2]
 have f3:(k==5)=false:=by simp [k3]
 have f4:(k==6)=false:=by simp [k4]
 have f5:(k==8)=false:=by simp [k5]
 have f6:(k==9)=false:=by simp [k6]
 have f7:(k==10)=false:=by simp [k7]
 have f8:(k==12)=false:=by simp [k8]
 have f9:(k==13)=false:=by simp [k9]
 have f10:(k==21)=false:=by simp [k10]
 have f11:(k==22)=false:=by simp [k11]
 clear hC hB1 hN1 he hB hN;clear k1 k2 k3 k4 k5 k6 k7 k8 k9 k10 k11;subst hC2
 go_enter Tryz.func60,Tryz.ntmps60
 go_wp2_with fail;refine (hL.out _ F own_left).mono ?_;rintro en w1 ⟨z,hz,rfl,hs1⟩;have hr0:=hE.out z hz;clear hz
 cases z
 case false =>
  have hr:=hid (hr0.1 rfl);clear hr0;go_wp2_with fail
  go_end0
  rw [hr.out];exact ⟨rfl,own_left⟩
 case true =>
  have hr:=hid (hr0.2 rfl);clear hr0;go_wp2_with fail;refine (hU.out _ F own_left).mono ?_;rintro en w2 ⟨rfl,hs2⟩;go_wp2_with fail
  go_end0
  rw [hr.out];exact ⟨rfl,own_left⟩
theorem stLearn (g:Nat) (n:Nat) (B:Bk) (hB:BOk n B) (hn:n≤64) (M:Int) (hN:Num M B) (hM:M<1000000) (e:Ev) (he:EvIn n e) (h8:e.k=8→0<(B.t e.a).opn) (w0 w:World) (F:HP) (hs:Sat w0 w (bkP g B*F)) :
  Calls Tryz.prog 60 #[.pointer (some ⟨g,0,none⟩),evX e] w (RetV w0 (.tuple #[]) (bkP g (B.learn e)*F)):=by
 obtain ⟨k,cy,co,a,b,v⟩:=e
 by_cases h:k=3
 ·subst h;exact stLearn3 g n B hB hn M hN hM cy co a b v he w0 w F hs
 by_cases h4:k=4
 ·subst h4;exact stLearn4 g n B hB hn M hN hM cy co a b v he w0 w F hs
 by_cases h5:k=5
 ·subst h5
  by_cases hb:b=255
  ·exact stLearn5n g n B hB hn M hN hM cy co a b v he hb w0 w F hs
  ·cases hr:(B.t b).rdy with
   | true=>exact stLearn5r g n B hB hn M hN hM cy co a b v he hb hr w0 w F hs
   | false=>exact stLearn5w g n B hB hn M hN hM cy co a b v he hb hr w0 w F hs
 by_cases h6:k=6
 ·subst h6;exact stLearn6 g n B hB hn M hN hM cy co a b v he w0 w F hs
 by_cases h88:k=8
 ·subst h88;exact stLearn8 g n B hB hn M hN hM cy co a b v he (h8 rfl) w0 w F hs
 by_cases h9:k=9
 ·subst h9
  cases hm:mtx b with
  | true=>exact stLearn9m g n B hB hn M hN hM cy co a b v he hm w0 w F hs
  | false=>exact stLearn9u g n B hB hn M hN hM cy co a b v he hm w0 w F hs
 by_cases h10:k=10
 ·subst h10;exact stLearn10 g n B hB hn M hN hM cy co a b v he w0 w F hs
 by_cases h12:k=12
 ·subst h12;exact stLearn12 g n B hB hn M hN hM cy co a b v he w0 w F hs
 by_cases h13:k=13
 ·subst h13;exact stLearn13 g n B hB hn M hN hM cy co a b v he w0 w F hs
 by_cases h21:k=21
 ·subst h21
  by_cases h64:a<64
  ·exact stLearn21 g n B hB hn M hN hM cy co a b v he h64 w0 w F hs
  ·exact stLearn21n g n B hB hn M hN hM cy co a b v he h64 w0 w F hs
 by_cases h22:k=22
 ·subst h22;exact stLearn22 g n B hB hn M hN hM cy co a b v he w0 w F hs
 exact stLearnO g n B hB hn M hN hM k cy co a b v he ⟨h,h4,h5,h6,h88,h9,h10,h12,h13,h21,h22⟩ w0 w F hs
theorem cloneSk (a:Option Addr) (cap:Nat) (l:List Sk) (hl:l.length≤1000000) (w0 w:World) (F:HP) (hs:Sat w0 w (recsP (.slice a l.length cap) l*F)) :
  Calls Tryz.prog 59 #[.slice a l.length cap] w (Ret w0 fun v'=>recsP v' l*(recsP (.slice a l.length cap) l*F)):=by
 have hnw:=hs.rdR.news;have q:∀ (w:World) (a:Option Addr) (n c:Nat),(binOp .eql 73 (.slice a n c) (.slice none 0 0)).run Tryz.prog w=.ok (.bool a.isNone) w:=fun w a n c=>Lib.run_eql_slice_nil w _ _ a n c 0 0 Tryz.underlying73
 cases a with
 | none =>
  have h0:=hnw.2.1 rfl;have hl0:l=[]:=List.eq_nil_of_length_eq_zero h0;subst hl0;clear hnw
  go_enter Tryz.func59,Tryz.ntmps59
  go_wp2;go_ret;exact ⟨_,rfl,Sat.slice_nil 13 hs⟩
 | some ad =>
  go_enter Tryz.func59,Tryz.ntmps59
  go_wp2_with (at_builtin;refine wpList_append_sat (by rfl) (.tmp 5) (.tmp 6) (by rfl) (ElemR.el (E:=encSk)) (by rfl) (hs.empty_slice 13 100) (some ad) l.length cap (cellsOf l) (by rfl) (by rw [cellsOf_len]) (by simp) (fun a' ha' j u hj=>cell_alloc (hnw.2.2 a' ha' j u hj) _) (cellsOf_one l) (by unfold maxLen;omega) (by omega) ?_);intro v' w' hs' _;go_wp2;go_ret;exact ⟨_,rfl,by simpa [recsP] using hs'⟩
end Go.Proofs.YtkeommmigopnkaaGreatDoor
