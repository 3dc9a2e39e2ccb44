/-
  Parts of the proof: HistD RegionE HistE HistF HistG JbOpen VmA VmB.
-/
import Derived.Deep.MidRow
import Derived.WalkKit
import Derived.ArgAppend
import Derived.Deep.Draws
import Derived.Laws.IdiomCopy
import Derived.Test.YtndjjndllfdklaaGreatDoorKE0
set_option linter.unusedVariables false
set_option linter.unusedSimpArgs false
set_option maxHeartbeats 32000000
set_option maxRecDepth 100000
namespace Go.Proofs.YtndjjndllfdklaaGreatDoor
open Go.RowKit Go.Sx Go.Hi
theorem madeW (x:Value) (n:Nat):(madeCells #[x] n).toList=List.replicate n x:=by
 induction n with
 | zero=>simp [madeCells]
 | succ n ih =>
  simp [madeCells] at ih ⊢;simp [List.range_succ,ih,List.replicate_succ'];rw [Nat.mod_one];rfl
theorem makeW (M:Nat) (hM:M≤256) (w:World):(Instr.makeSlice 103 (.int .i64 M) (.int .i64 M)).run Tryz.prog w=.ok (.slice (some ⟨w.heap.size,0,none⟩) M M) (w.alloc (.cells ((List.replicate M 0).map (Value.int .u64)).toArray 26)):=by
 obtain ⟨i,hi,hz,h2,h3⟩:=info_parts elemW.hi;have hc:(Value.int .u64 0).cells=#[Value.int .u64 0]:=by rfl
 have hr:=run_make (P:=Tryz.prog) w 103 26 i _ elemW.ht hi hz .i64 .i64 M M (by omega) (Int.le_refl _) (by
  rw [h3];omega) (by omega)
 rw [hr,hc,h2];simp only [Int.toNat_natCast,Nat.mul_one];rw [List.map_replicate,← madeW]
theorem hi_made {w0 w:World} {F:HP} (g:Nat) (Z:List Int) (h:Z.length≤maxLen) (hs:Sat w0 w (pts g 0 (Z.map (Value.int .u64))*F)):Sat w0 w (numsP .u64 (.slice (some ⟨g,0,none⟩) Z.length Z.length) Z*F) :=
 Sat.slice_in (sp:=[]) (hs.perm (by rw [List.append_nil])) (Nat.le_refl _) h (by simp) (by simp)
theorem rdN_alloc {κ:IntKind} {w:World} {v:Value} {l:List Int} (h:RdN κ w v l) (o:Obj):RdN κ (w.alloc o) v l:=by
 obtain ⟨a,cap,b,off,e,h1,h2,h3,h4⟩:=h;exact ⟨a,cap,b,off,e,h1,h2,h3,fun j hj=>cell_alloc (h4 j hj) o⟩
def NewH (w0:World) (l:List Int) (F:HP) (e:Ending) (w':World):Prop :=
 (¬ Right l∧e=.returned (.tuple #[.pointer none,.int .i64 1])∧Sat w0 w' F) ∨
 (Right l∧∃ (b:Nat) (ba:Option Addr) (bc g cc:Nat),e=.returned (.tuple #[.pointer (some ⟨b,0,none⟩),.int .i64 0])∧Sat w0 w' (hiP b ba bc g cc 0 0 0 0 l (List.replicate (l.length+1) 0)*F))
theorem hNew (v:Value) (l:List Int) (w0 w:World) (F:HP) (hs:Sat w0 w F) (h:RdN .u64 w v l) (hl:l.length≤1000) :
  Calls Tryz.prog 147 #[v] w (NewH w0 l F):=by
 have hCl:=hid (fun (u:World) (P:HP) (h':Sat w0 u P) (hr:RdN .u64 u v l)=>cloneW v l w0 u P h' hr (by omega));have Hrd:=hid h;obtain ⟨a,cap,b,off,rfl,hcap,hbig,ha,hc⟩:=h;unfold maxLen at hbig
 by_cases h32:32<l.length
 ·have d1:decide (32<(l.length:Int))=true:=by simp;omega
  clear ha hc
  go_enter Tryz.func147,Tryz.ntmps147
  go_wp2_with fail;go_ret2;exact .inl ⟨fun h=>absurd h.2 (by omega),rfl,hs⟩
 ·have d1:decide (32<(l.length:Int))=false:=by simp;omega
  go_enter Tryz.func147,Tryz.ntmps147
  go_wp2_with fail
  go_loopw [4] (fun i wr=>∃ k n:Nat,1≤k∧k≤l.length+1∧i=.int .i64 k∧Hid (∀ j,j+1<k→j+1<l.length→at_ l j<at_ l (j+1))∧wr=w.drewN n) (fun i _=>l.length+1-(intOf i).toNat)
  case atStart=>exact ⟨1,0,Nat.le_refl _,by omega,rfl,hid fun j hj=>absurd hj (by omega),rfl⟩
  case round =>
   obtain ⟨k,n,hk1,hk,rfl,hI,rfl⟩:=hrel
   by_cases hlt:k<l.length
   ·obtain rfl:=ha (by intro e;simp [e] at hlt);obtain ⟨m,rfl⟩:∃ m,k=m+1:=⟨k-1,by omega⟩;have c1:=hc (m+1) hlt;have c2:=hc m (by omega);rw [at_def] at c1 c2;have hn:=hid (show at_ l m<at_ l (m+1)→∀ j,j+1<m+1+1→j+1<l.length→at_ l j<at_ l (j+1) from fun hlt j h1 h2=>by
     by_cases e:j=m
     ·subst e;exact hlt
     ·exact hI.out j (by omega) h2)
    have hno:=hid (show ¬ at_ l m<at_ l (m+1)→¬ Right l from fun h hR=>h (hR.1 m hlt));have w1:IntKind.i64.wrap (((m+1:Nat):Int)-1)=m:=by rw [IntKind.wrap_i64];omega
    have p1:(((m+1:Nat):Int)-1)=(m:Int):=by omega
    generalize at_ l m=y at c2 hn hno;generalize at_ l (m+1)=x at c1 hn hno;clear hc ha
    by_cases hb:x≤y
    ·have hd:decide (x≤y)=true:=decide_eq_true hb;go_wp2_with fail;go_quiet (fail);go_wp2_with fail;go_ret2;exact .inl ⟨hno.out (by omega),rfl,own_it⟩
    ·have hd:decide (x≤y)=false:=decide_eq_false hb;go_wp2_with fail;go_quiet (fail);go_wp2_with fail;go_roundw
     case rel=>exact ⟨m+1+1,n+nq,by omega,by omega,by go_num,hid (hn.out (by omega)),by simp⟩
     case measure=>simp [intOf];omega
   ·clear hc ha;have hu:=hid (show Right l from ⟨fun j hj=>hI.out j (by omega) hj,by omega⟩);have hs1:Sat w0 (w.drewN n) F:=own_it;obtain ⟨u,hu2⟩:∃ u,u=w.drewN n:=⟨_,rfl⟩;have hR2:RdN .u64 u (.slice a l.length cap) l:=by rw [hu2];exact Hrd.out.drewN n
    rw [← hu2] at hs1 ⊢;clear hu2 hs;obtain ⟨Z,hZ⟩:∃ Z:List Int,Z=List.replicate (l.length+1) 0:=⟨_,rfl⟩;have hzl:Z.length=l.length+1:=by rw [hZ];simp
    have hmk:∀ w,(Instr.makeSlice 103 (.int .i64 ((l.length:Int)+1)) (.int .i64 ((l.length:Int)+1))).run Tryz.prog w=.ok (.slice (some ⟨w.heap.size,0,none⟩) Z.length Z.length) (w.alloc (.cells (Z.map (Value.int .u64)).toArray 26)):=fun w=>by rw [hzl,hZ];exact makeW (l.length+1) (by omega) w
    have hml:Z.length≤maxLen:=by unfold maxLen;omega
    have hzl:=hid hzl;have HZ:=hid hZ;clear hZ;go_wp2_with fail;refine wp_region_tree (fun _=>True) (.read 0 (.read 2 (.read 3 (.read 4 (.alt 1 (.run 5 (.read 6 (.run 7 (.read 8 (.read 9 .done))))) 5 (.run 1 (.read 6 (.run 7 (.read 8 (.read 9 .done)))))))))) (by kernel_rfl) (by kernel_rfl) (fun _ _ _ _ h=>h) trivial ?_
    iterate 4 (first | refine tree_S ?_ | refine tree_N ?_)
    refine tree_alt ?_ ?_
    ·refine tree_run (fun K hK=>?_);simp only [zqS,zqZ];rw [if_pos (by rfl)];go_wp2_with fail;refine (hCl.out _ _ own_it (hR2.drewN 1)).mono ?_;rintro e w' ⟨v',rfl,hs2⟩;obtain ⟨na,nc,rfl⟩:=hs2.slice_form;clear hs1;go_wp2_with fail;refine ⟨fun _=>True,fun _ h=>h,trivial,?_⟩;refine tree_run (fun K hK=>?_);simp only [zqS,zqZ];rw [if_pos (by rfl)];go_wp2_with fail;rw [hmk w'];go_wp2_with fail;refine ⟨fun _=>True,fun _ h=>h,trivial,?_⟩
     iterate 1 (first | refine tree_S ?_ | refine tree_N ?_)
     refine tree_run (fun K hK=>?_);simp only [zqS,zqZ];rw [if_pos (by rfl)];go_wp2_with fail;refine ⟨fun _=>True,fun _ h=>h,trivial,?_⟩
     iterate 2 (first | refine tree_S ?_ | refine tree_N ?_)
     refine tree_done ?_;go_wp2_with fail;go_ret2;refine .inr ⟨hu.out,w'.heap.size+1,na,nc,w'.heap.size,Z.length,rfl,?_⟩;rw [← HZ.out];exact (hi_made w'.heap.size Z hml own).perm (by unfold hiP;rw [hzl.out];ac_rfl)
    ·refine tree_run (fun K hK=>?_);simp only [zqS,zqZ];rw [if_pos (by rfl)];go_wp2_with fail;rw [hmk _];go_wp2_with fail;refine ⟨fun _=>True,fun _ h=>h,trivial,?_⟩;refine tree_run (fun K hK=>?_);simp only [zqS,zqZ];rw [if_pos (by rfl)];go_wp2_with fail;refine (hCl.out _ _ own_it (rdN_alloc (hR2.drewN 1) _)).mono ?_;rintro e w' ⟨v',rfl,hs2⟩;obtain ⟨na,nc,rfl⟩:=hs2.slice_form;clear hs1;go_wp2_with fail;refine ⟨fun _=>True,fun _ h=>h,trivial,?_⟩
     iterate 1 (first | refine tree_S ?_ | refine tree_N ?_)
     refine tree_run (fun K hK=>?_);simp only [zqS,zqZ];rw [if_pos (by rfl)];go_wp2_with fail;refine ⟨fun _=>True,fun _ h=>h,trivial,?_⟩
     iterate 2 (first | refine tree_S ?_ | refine tree_N ?_)
     refine tree_done ?_;go_wp2_with fail;go_ret2;refine .inr ⟨hu.out,w'.heap.size,na,nc,u.heap.size,Z.length,rfl,?_⟩;rw [← HZ.out];exact (hi_made u.heap.size Z hml own).perm (by unfold hiP;rw [hzl.out];ac_rfl)
end Go.Proofs.YtndjjndllfdklaaGreatDoor
namespace Go.Sx
open Go.RowKit
section
variable {P:Program} {ops:Array Oper} {Q:Exit→Act→World→Prop} {md:Region.Mode} {S:World→Prop} {j0:Nat}
def wpPast (P:Program) (ops:Array Oper) (Q:Exit→Act→World→Prop) (S:World→Prop) (j0:Nat):List (Nat×Nat)→Act→World→Prop
 | [],a,w=>Q .normal a w
 | (i,0)::rest,a,w=>∃ o v,ops[i]?=some o∧YieldsIf P ops (fun _=>True) o v a∧wpPast P ops Q S j0 rest (a.put o.dst v) w
 | (i,1)::rest,a,w=>∃ o v,ops[i]?=some o∧YieldsIf P ops S o v a∧wpPast P ops Q S j0 rest (a.put o.dst v) w
 | (i,2)::rest,a,w=>wpOp P ops Q i (fun a' w'=>S w'∧wpPast P ops Q S j0 rest a' w') a w
 | (i,_+3)::rest,a,w=>wpOp P ops Q i (fun a' w'=>wpPast P ops Q S j0 rest a' w') a w
def pastB (md:Region.Mode) (ops:Array Oper) (j0:Nat):List (Nat×Nat)→Array Bool→Bool
 | [],listed=>(Region.ready md ops listed).isEmpty
 | (i,0)::rest,listed=>(i != j0) && (Region.ready md ops listed).contains i && Region.free md ops listed i && pastB md ops j0 rest (listed.setIfInBounds i true)
 | (i,1)::rest,listed=>(i != j0) && waitsFor md ops j0 i && !listed.getD j0 true && (Region.ready md ops listed).contains i && Region.free md ops listed i && pastB md ops j0 rest (listed.setIfInBounds i true)
 | (i,2)::rest,listed=>(i != j0) && (Region.ready md ops listed==[i]) && pastB md ops j0 rest (listed.setIfInBounds i true)
 | (i,_+3)::rest,listed=>(i==j0 || listed.getD j0 false) && (Region.ready md ops listed==[i]) && pastB md ops j0 rest (listed.setIfInBounds i true)
def planPastB (ops:Array Oper) (j0:Nat) (plan:List (Nat×Nat)):Bool :=
 Region.noSelect ops && (plan.length==ops.size) && pastB .any ops j0 plan (Array.replicate ops.size false)
theorem wpTill_of_past (hs:Region.noSelect ops=true) (hQ:∀ (t:Array Value) c (a:Act) w,Q (.panic c) { a with tmps:=t } w→Q (.panic c) a w) :
  ∀ (plan:List (Nat×Nat)) (listed:Array Bool) (a:Act) (w:World),pastB md ops j0 plan listed=true→(listed.getD j0 true=false→S w)→wpPast P ops Q S j0 plan a w→wpTill P md ops Q S j0 plan.length listed a w
 | [],_,_,_,hB,_,h=>⟨by simpa [pastB] using hB,h⟩
 | (i,0)::rest,listed,a,w,hB,hS,h=>by
  simp only [pastB,Bool.and_eq_true,bne_iff_ne] at hB;obtain ⟨⟨⟨h0,hr⟩,hf⟩,hB'⟩:=hB;obtain ⟨o,v,ho,hy,h'⟩:=h;refine wpTill_first ho (Region.noSelect_spec hs) (fun c a w hq=>by
   cases hd:o.dst with
   | none=>rw [hd] at hq;exact hq
   | some d=>rw [hd] at hq;exact hQ _ c a w hq) h0 (.inl fun _=>trivial) _ _ _ _ (Region.free_spec ho hf) (by simpa using hr) (.inl fun _=>trivial) hy hS
   (wpTill_of_past hs hQ rest _ _ _ hB' (fun hl=>hS (by rw [getD_set_ne true h0] at hl;exact hl)) h')
 | (i,1)::rest,listed,a,w,hB,hS,h=>by
  simp only [pastB,Bool.and_eq_true,bne_iff_ne,Bool.not_eq_true'] at hB;obtain ⟨⟨⟨⟨⟨h0,hw⟩,hl⟩,hr⟩,hf⟩,hB'⟩:=hB;obtain ⟨o,v,ho,hy,h'⟩:=h;refine wpTill_first ho (Region.noSelect_spec hs) (fun c a w hq=>by
   cases hd:o.dst with
   | none=>rw [hd] at hq;exact hq
   | some d=>rw [hd] at hq;exact hQ _ c a w hq) h0 (.inr ⟨fun _ h=>h,hw⟩) _ _ _ _ (Region.free_spec ho hf) (by simpa using hr) (.inr hl) hy hS
   (wpTill_of_past hs hQ rest _ _ _ hB' (fun hl=>hS (by rw [getD_set_ne true h0] at hl;exact hl)) h')
 | (i,2)::rest,listed,a,w,hB,hS,h=>by
  simp only [pastB,Bool.and_eq_true,beq_iff_eq,bne_iff_ne] at hB;obtain ⟨⟨h0,hr⟩,hB'⟩:=hB;refine ⟨fun h0=>(by rw [hr] at h0;cases h0),fun j hj=>?_⟩;rw [hr] at hj;have:j=i:=by simpa using hj
  subst this;exact wpOp_mono (fun a' w' h'=>⟨fun _ _=>h'.1,wpTill_of_past hs hQ rest _ _ _ hB' (fun _=>h'.1) h'.2⟩) h
 | (i,n+3)::rest,listed,a,w,hB,hS,h=>by
  simp only [pastB,Bool.and_eq_true,beq_iff_eq,Bool.or_eq_true] at hB;obtain ⟨⟨h0,hr⟩,hB'⟩:=hB;refine ⟨fun h0=>(by rw [hr] at h0;cases h0),fun j hj=>?_⟩;rw [hr] at hj;have:j=i:=by simpa using hj
  subst this;have hjr:j∈Region.ready md ops listed:=by rw [hr];simp
  have hno:∀ (l:Array Bool),l.getD j0 false=true→¬ l.getD j0 true=false:=fun l h1 h2=>by
   rcases Nat.lt_or_ge j0 l.size with h' | h'
   ·simp [h'] at h1 h2;rw [h1] at h2;cases h2
   ·simp [Array.getElem?_eq_none h'] at h1
  refine wpOp_mono (fun a' w' h'=>⟨fun hn hl=>?_,wpTill_of_past hs hQ rest _ _ _ hB' (fun hl=>?_) h'⟩) h
  ·rcases h0 with h0 | h0
   ·exact absurd h0 hn
   ·exact absurd hl (hno _ h0)
  ·rcases h0 with h0 | h0
   ·subst h0;rw [listed_set (mem_ready.1 hjr).1] at hl
    cases hl
   ·by_cases hj0:j=j0
    ·subst hj0;rw [listed_set (mem_ready.1 hjr).1] at hl
     cases hl
    ·rw [getD_set_ne true hj0] at hl;exact absurd hl (hno _ h0)
theorem wp_region_past {id:Nat} {a:Act} {w:World} (S:World→Prop) (j0:Nat) (plan:List (Nat×Nat)) (hm:P.follows .mixedOrders=true) (hB:planPastB ops j0 plan=true)
  (hQ:∀ (t:Array Value) c (a:Act) w,Q (.panic c) { a with tmps:=t } w→Q (.panic c) a w) (hS:S w.drew) (h:wpPast P ops Q S j0 plan a w.drew):(Code.region id ops true).wp P Q a w:=by
 simp only [planPastB,Bool.and_eq_true,beq_iff_eq] at hB;obtain ⟨⟨h1,h2⟩,h3⟩:=hB;refine wp_region_any hm (wpAny_of_till (S:=S) (j0:=j0) _ _ _ _ ?_);rw [← h2];rw [← h2] at h3;exact wpTill_of_past h1 hQ plan _ a w.drew h3 (fun _=>hS) h
theorem past_done {a:Act} {w:World} (h:Q .normal a w):wpPast P ops Q S j0 [] a w:=h
section
variable {l:List Oper} {i n:Nat} {rest:List (Nat×Nat)} {a:Act} {w:World}
theorem past_pure (h:∀ K:Act→Prop,(∀ a,wpPast P l.toArray Q S j0 rest a w→K a)→match l[i]? with
  | none=>False
  | some o=>if Region.wanted o (yielded l.toArray a.tmps)=true then ∃ v,(∀ w,True→(execOp a.eval o).run P w=.ok (.value v) w)∧K (a.put o.dst v) else K (a.put o.dst undef)) :
  wpPast P l.toArray Q S j0 ((i,0)::rest) a w:=by
 have h:=h _ fun _ h=>h
 cases ho:l[i]? with
 | none=>rw [ho] at h;exact h.elim
 | some o =>
  rw [ho] at h;have h:if Region.wanted o (yielded l.toArray a.tmps)=true then _ else _:=h
  by_cases hw:Region.wanted o (yielded l.toArray a.tmps)=true
  ·rw [if_pos hw] at h;obtain ⟨v,h1,h2⟩:=h;exact ⟨o,v,by simpa using ho,.inl ⟨hw,h1⟩,h2⟩
  ·rw [if_neg hw] at h;exact ⟨o,undef,by simpa using ho,.inr ⟨by simpa using hw,rfl⟩,h⟩
theorem past_read (h:∀ K:Act→Prop,(∀ a,wpPast P l.toArray Q S j0 rest a w→K a)→match l[i]? with
  | none=>False
  | some o=>if Region.wanted o (yielded l.toArray a.tmps)=true then ∃ v,(∀ w,S w→(execOp a.eval o).run P w=.ok (.value v) w)∧K (a.put o.dst v) else K (a.put o.dst undef)) :
  wpPast P l.toArray Q S j0 ((i,1)::rest) a w:=by
 have h:=h _ fun _ h=>h
 cases ho:l[i]? with
 | none=>rw [ho] at h;exact h.elim
 | some o =>
  rw [ho] at h;have h:if Region.wanted o (yielded l.toArray a.tmps)=true then _ else _:=h
  by_cases hw:Region.wanted o (yielded l.toArray a.tmps)=true
  ·rw [if_pos hw] at h;obtain ⟨v,h1,h2⟩:=h;exact ⟨o,v,by simpa using ho,.inl ⟨hw,h1⟩,h2⟩
  ·rw [if_neg hw] at h;exact ⟨o,undef,by simpa using ho,.inr ⟨by simpa using hw,rfl⟩,h⟩
theorem past_run (h:∀ K:Act→World→Prop,(∀ a w,S w∧wpPast P l.toArray Q S j0 rest a w→K a w)→match l[i]? with
  | none=>False
  | some o=>if Region.wanted o (yielded l.toArray a.tmps)=true then o.wp P a w K Q else K (a.put o.dst undef) w) :
  wpPast P l.toArray Q S j0 ((i,2)::rest) a w:=by
 have h:=h _ fun _ _ h=>h;show wpOp P l.toArray Q i _ a w;unfold wpOp;have e:l.toArray[i]?=l[i]?:=by simp
 rw [e]
 cases ho:l[i]? with
 | none=>rw [ho] at h;exact h.elim
 | some o =>
  rw [ho] at h;have h:if Region.wanted o (yielded l.toArray a.tmps)=true then _ else _:=h;show if Region.wanted o (yielded l.toArray a.tmps)=true then _ else _
  by_cases hw:Region.wanted o (yielded l.toArray a.tmps)=true
  ·rw [if_pos hw] at h ⊢;exact .inl h
  ·rw [if_neg hw] at h ⊢;exact h
theorem past_free (h:∀ K:Act→World→Prop,(∀ a w,wpPast P l.toArray Q S j0 rest a w→K a w)→match l[i]? with
  | none=>False
  | some o=>if Region.wanted o (yielded l.toArray a.tmps)=true then o.wp P a w K Q else K (a.put o.dst undef) w) :
  wpPast P l.toArray Q S j0 ((i,n+3)::rest) a w:=by
 have h:=h _ fun _ _ h=>h;show wpOp P l.toArray Q i _ a w;unfold wpOp;have e:l.toArray[i]?=l[i]?:=by simp
 rw [e]
 cases ho:l[i]? with
 | none=>rw [ho] at h;exact h.elim
 | some o =>
  rw [ho] at h;have h:if Region.wanted o (yielded l.toArray a.tmps)=true then _ else _:=h;show if Region.wanted o (yielded l.toArray a.tmps)=true then _ else _
  by_cases hw:Region.wanted o (yielded l.toArray a.tmps)=true
  ·rw [if_pos hw] at h ⊢;exact .inl h
  ·rw [if_neg hw] at h ⊢;exact h
theorem past_pT {o:Oper} (ho:l[i]?=some o) (hw:Region.wanted o (yielded l.toArray a.tmps)=true) (h:∃ v,(∀ w,True→(execOp a.eval o).run P w=.ok (.value v) w)∧wpPast P l.toArray Q S j0 rest (a.put o.dst v) w):wpPast P l.toArray Q S j0 ((i,0)::rest) a w :=
 past_pure fun K hK=>by rw [ho];dsimp only;rw [if_pos hw];obtain ⟨v,hv,hk⟩:=h;exact ⟨v,hv,hK _ hk⟩
theorem past_pF {o:Oper} (ho:l[i]?=some o) (hw:Region.wanted o (yielded l.toArray a.tmps)=false) (hk:wpPast P l.toArray Q S j0 rest (a.put o.dst undef) w):wpPast P l.toArray Q S j0 ((i,0)::rest) a w :=
 past_pure fun K hK=>by rw [ho];dsimp only;rw [if_neg (ne_true_of_eq_false hw)];exact hK _ hk
theorem past_rT {o:Oper} (ho:l[i]?=some o) (hw:Region.wanted o (yielded l.toArray a.tmps)=true) (h:∃ v,(∀ w,S w→(execOp a.eval o).run P w=.ok (.value v) w)∧wpPast P l.toArray Q S j0 rest (a.put o.dst v) w):wpPast P l.toArray Q S j0 ((i,1)::rest) a w :=
 past_read fun K hK=>by rw [ho];dsimp only;rw [if_pos hw];obtain ⟨v,hv,hk⟩:=h;exact ⟨v,hv,hK _ hk⟩
theorem past_rF {o:Oper} (ho:l[i]?=some o) (hw:Region.wanted o (yielded l.toArray a.tmps)=false) (hk:wpPast P l.toArray Q S j0 rest (a.put o.dst undef) w):wpPast P l.toArray Q S j0 ((i,1)::rest) a w :=
 past_read fun K hK=>by rw [ho];dsimp only;rw [if_neg (ne_true_of_eq_false hw)];exact hK _ hk
theorem past_pS {o:Oper} {v:Value} {a':Act} (h:wpPast P l.toArray Q S j0 rest a' w) (ho:l[i]?=some o:=by rfl) (hw:Region.wanted o (yielded l.toArray a.tmps)=true:=by rfl)
  (hx:∀ w,True→(execOp a.eval o).run P w=.ok (.value v) w:=by intro w hSw; (try dsimp only at hSw);go_simp;try with_reducible rfl) (ha:a.put o.dst v=a':=by simp only [Act.put,zqA,zqP,zqQ];rfl):wpPast P l.toArray Q S j0 ((i,0)::rest) a w :=
 past_pT ho hw ⟨v,hx,by rw [ha];exact h⟩
theorem past_pN {o:Oper} {a':Act} (h:wpPast P l.toArray Q S j0 rest a' w) (ho:l[i]?=some o:=by rfl) (hw:Region.wanted o (yielded l.toArray a.tmps)=false:=by rfl) (ha:a.put o.dst undef=a':=by simp only [Act.put,zqA,zqP,zqQ];rfl):wpPast P l.toArray Q S j0 ((i,0)::rest) a w :=
 past_pF ho hw (by rw [ha];exact h)
theorem past_rS {o:Oper} {v:Value} {a':Act} (h:wpPast P l.toArray Q S j0 rest a' w) (ho:l[i]?=some o:=by rfl) (hw:Region.wanted o (yielded l.toArray a.tmps)=true:=by rfl)
  (hx:∀ w,S w→(execOp a.eval o).run P w=.ok (.value v) w:=by intro w hSw; (try dsimp only at hSw);go_simp;try with_reducible rfl) (ha:a.put o.dst v=a':=by simp only [Act.put,zqA,zqP,zqQ];rfl):wpPast P l.toArray Q S j0 ((i,1)::rest) a w :=
 past_rT ho hw ⟨v,hx,by rw [ha];exact h⟩
theorem past_rN {o:Oper} {a':Act} (h:wpPast P l.toArray Q S j0 rest a' w) (ho:l[i]?=some o:=by rfl) (hw:Region.wanted o (yielded l.toArray a.tmps)=false:=by rfl) (ha:a.put o.dst undef=a':=by simp only [Act.put,zqA,zqP,zqQ];rfl):wpPast P l.toArray Q S j0 ((i,1)::rest) a w :=
 past_rF ho hw (by rw [ha];exact h)
theorem past_G {o:Oper} (ho:l[i]?=some o) (hw:Region.wanted o (yielded l.toArray a.tmps)=true) (h:∀ K:Act→World→Prop,(∀ a w,S w∧wpPast P l.toArray Q S j0 rest a w→K a w)→o.wp P a w K Q):wpPast P l.toArray Q S j0 ((i,2)::rest) a w :=
 past_run fun K hK=>by rw [ho];dsimp only;rw [if_pos hw];exact h K hK
end
end
end Go.Sx
namespace Go.Proofs.YtndjjndllfdklaaGreatDoor
open Go.RowKit Go.Sx Go.Hi
instance (priority:=1250) Cell.numsZ (κ:IntKind) (g n cap k:Nat) (l:List Int) [h:Lt k l.length]:Cell (numsP κ (.slice (some ⟨g,0,none⟩) n cap) l) g k (.int κ (at_ l k)) :=
 ⟨fun hs=>by have:=(hs.nums_cell h.lt).1;rwa [Nat.zero_add] at this,fun hs=>by have:=(hs.nums_cell h.lt).2;rwa [Nat.zero_add] at this⟩
theorem numsZ_upd {κ:IntKind} {w0 w:World} {F:HP} {g n cap k:Nat} {l:List Int} (hs:Sat w0 w (numsP κ (.slice (some ⟨g,0,none⟩) n cap) l*F)) (hk:k<l.length) (x:Int) :
  Sat w0 (w.setCell ⟨g,k,none⟩ (.int κ x)) (numsP κ (.slice (some ⟨g,0,none⟩) n cap) (l.set k x)*F):=by
 rcases hs.slice_out with ⟨e,_⟩ | ⟨g',off',cap',sp,e,h1,h2,hx,hsp,hs'⟩
 ·cases e
 ·simp only [Value.slice.injEq,Option.some.injEq,Addr.mk.injEq] at e;obtain ⟨⟨rfl,rfl,_⟩,rfl,rfl⟩:=e;have h3:=hs'.set (j:=k) (by rw [List.length_append,List.length_map];omega) (.int κ x);rw [List.set_append_left _ _ (by rw [List.length_map];exact hk),← List.map_set,Nat.zero_add] at h3;have h4:=Sat.slice_in (k:=1) (n:=l.length) h3 h1 h2 (by simp) hsp;unfold numsP;rw [List.length_set];exact h4
instance (priority:=1350) Upd.numsZ (κ:IntKind) (g n cap k:Nat) (l:List Int) (x:Int) [h:Lt k l.length]:Upd (numsP κ (.slice (some ⟨g,0,none⟩) n cap) l) g k (.int κ x) (numsP κ (.slice (some ⟨g,0,none⟩) n cap) (l.set k x)):=⟨fun hs=>numsZ_upd hs h.lt x⟩
def AddH (w0:World) (b:Nat) (ba:Option Addr) (bc g cc:Nat) (all sum:Int) (B C:List Int) (F:HP) (e:Ending) (w':World):Prop :=
 e=.returned (.bool true)∧∃ le tp,Sat w0 w' (hiP b ba bc g cc all sum le tp B C*F)
theorem hi_end {w0 w:World} {b:Nat} {ba:Option Addr} {bc g cc i:Nat} {all all' sum:Int} {B C:List Int} {F:HP} (e:all'=all)
  (h:∃ le tp,Sat w0 w (pts b 0 [.slice ba B.length bc,.slice (some ⟨g,0,none⟩) C.length cc,.int .u64 all',.int .u64 sum,.int .u64 le,.int .u64 tp]*(numsP .u64 (.slice ba B.length bc) B*(numsP .u64 (.slice (some ⟨g,0,none⟩) C.length cc) (C.set i (IntKind.u64.wrap (at_ C i+1)))*F)))) :
  AddH w0 b ba bc g cc all sum B (C.set i ((at_ C i+1)%18446744073709551616)) F (.returned (.bool true)) w:=by
 obtain ⟨le,tp,h⟩:=h;refine ⟨rfl,le,tp,?_⟩;subst e;have hw:IntKind.u64.wrap (at_ C i+1)=(at_ C i+1)%18446744073709551616:=by simp [IntKind.wrap,IntKind.bits,IntKind.signed]
 rw [hw] at h;unfold hiP;rw [List.length_set];exact h.perm (by ac_rfl)
theorem at_lt_whr (l:List Int) (v:Int):whr l v<l.length+1:=Nat.lt_succ_of_le (whr_le l v)
theorem hAdd (b:Nat) (ba:Option Addr) (bc g cc:Nat) (all sum le tp:Int) (B C:List Int) (x:Int) (w0 w:World) (F:HP) (hs:Sat w0 w (hiP b ba bc g cc all sum le tp B C*F)) (hu:Right B) (hr:∀ y∈B,0≤y∧y<18446744073709551616)
  (hC:C.length=B.length+1) (hc:∀ y∈C,0≤y∧y<18446744073709551616) (hx:0≤x∧x<18446744073709551616) (ha:0≤all∧all<1000000) (hsm:0≤sum∧sum<18446744073709551616) :
  Calls Tryz.prog 148 #[.pointer (some ⟨b,0,none⟩),.int .u64 x] w (AddH w0 b ba bc g cc (all+1) (satA sum x) B (cntA B C x) F):=by
 have hW:=hid (fun (w:World) (F:HP) (all sum le tp:Int) (hs:Sat w0 w (hiP b ba bc g cc all sum le tp B C*F))=>hWhere b ba bc g cc all sum le tp B C w0 w F hs hu.1 (by have:=hu.2;omega) hr x hx);have hM:=hid (fun (w:World)=>hMore sum x w hsm hx);obtain ⟨i,hi⟩:∃ i,i=whr B x:=⟨_,rfl⟩;have hiC:i<C.length:=by rw [hi,hC];exact at_lt_whr B x
 have e2:cntA B C x=C.set i ((at_ C i+1)%18446744073709551616):=by rw [hi];rfl
 rw [e2];rw [← hi] at hW;obtain ⟨c0,c1⟩:=at_rng hc i;have hcl:C.length≤33:=by have:=hu.2;omega
 clear e2 hi hu hr hc hC;have a0:=ha.1;have a1:=ha.2;obtain ⟨x0,x1⟩:=hx;obtain ⟨s0,s1⟩:=hsm;have hl2:Lt i C.length:=⟨hiC⟩;have hW2:=hid (fun (w:World) (F:HP) (all sum le tp:Int) (hs:Sat w0 w (pts b 0 [.slice ba B.length bc,.slice (some ⟨g,0,none⟩) C.length cc,.int .u64 all,.int .u64 sum,.int .u64 le,.int .u64 tp]*(numsP .u64 (.slice ba B.length bc) B*(numsP .u64 (.slice (some ⟨g,0,none⟩) C.length cc) C*F))))=>hW.out w F all sum le tp (hs.perm (by unfold hiP;ac_rfl)));unfold hiP at hs;clear hW
 by_cases h0:all=0
 ·have hd:(all==0)=true:=by simp [h0]
  go_enter Tryz.func148,Tryz.ntmps148
  go_wp2_with fail;refine wp_gen (w0:=w0) ?_;intro wx hsx;obtain ⟨L0,T0,hsx⟩:∃ L0 T0,Sat w0 wx (pts b 0 [.slice ba B.length bc,.slice (some ⟨g,0,none⟩) C.length cc,.int .u64 all,.int .u64 sum,.int .u64 L0,.int .u64 T0]*(numsP .u64 (.slice ba B.length bc) B*(numsP .u64 (.slice (some ⟨g,0,none⟩) C.length cc) C*F))):=⟨_,_,hsx.perm (by ac_rfl)⟩;clear hs;refine wp_region_past (fun w'=>w'.cell? ⟨b,1,none⟩=some (.slice (some ⟨g,0,none⟩) C.length cc)∧w'.cell? ⟨g,i,none⟩=some (.int .u64 (at_ C i))) 11 [(0,0),(1,0),(2,0),(3,1),(4,0),(5,0),(6,2),(7,0),(8,1),(9,0),(10,0),(11,3)] (by kernel_rfl) (by kernel_rfl) (fun _ _ _ _ h=>h) ⟨own_cell,own_cell⟩ ?_
  iterate 6 (first | refine past_pS ?_ | refine past_rS ?_ | refine past_pN ?_ | refine past_rN ?_)
  refine past_G rfl (by rfl) (fun K hK=>?_);go_wp2_with fail;refine (hW2.out _ _ _ _ _ _ own_it).mono ?_;rintro e w' ⟨rfl,rfl⟩;go_wp2_with fail;refine ⟨⟨own_cell,own_cell⟩,?_⟩
  iterate 4 (first | refine past_pS ?_ | refine past_rS ?_ | refine past_pN ?_ | refine past_rN ?_)
  refine past_free (fun K hK=>?_);simp only [zqS,zqZ];rw [if_pos (by rfl)];go_wp2_with fail;refine past_done ?_;go_wp2_with fail;refine (hM.out _).mono ?_;rintro e w' ⟨rfl,rfl⟩;go_wp2_with fail;refine wp_gen (w0:=w0) ?_;intro wy hsy;clear hsx;have hb1:(x<L0)=True∨(x<L0)=False:=by by_cases h:x<L0<;>simp [h]
  have hb2:(T0<x)=True∨(T0<x)=False:=by by_cases h:T0<x<;>simp [h]
  rcases hb1 with hb1 | hb1<;>rcases hb2 with hb2 | hb2
  all_goals
   refine wp_region_past (fun w'=>w'.cell? ⟨b,4,none⟩=some (.int .u64 L0)∧w'.cell? ⟨b,5,none⟩=some (.int .u64 T0)) 16 [(0,0),(1,0),(2,0),(3,0),(4,0),(5,1),(6,0),(7,0),(8,0),(9,0),(10,0),(11,1),(12,0),(13,0),(14,0),(15,0),(16,3),(17,0),(18,0),(19,3)] (by kernel_rfl) (by kernel_rfl) (fun _ _ _ _ h=>h) ⟨own_cell,own_cell⟩ ?_
   iterate 16 (first | refine past_pS ?_ | refine past_rS ?_ | refine past_pN ?_ | refine past_rN ?_)
   refine past_free (fun K hK=>?_);simp only [zqS,zqZ];rw [if_pos (by rfl)];go_wp2_with fail
   iterate 2 (first | refine past_pS ?_ | refine past_rS ?_ | refine past_pN ?_ | refine past_rN ?_)
   refine past_free (fun K hK=>?_);simp only [zqS,zqZ];rw [if_pos (by rfl)];go_wp2_with fail;refine past_done ?_;go_wp2_with fail;go_ret;exact hi_end (by omega) ⟨_,_,own_it⟩
 ·have hd:(all==0)=false:=by simp [h0]
  go_enter Tryz.func148,Tryz.ntmps148
  go_wp2_with fail;refine wp_gen (w0:=w0) ?_;intro wx hsx;obtain ⟨L0,T0,hsx⟩:∃ L0 T0,Sat w0 wx (pts b 0 [.slice ba B.length bc,.slice (some ⟨g,0,none⟩) C.length cc,.int .u64 all,.int .u64 sum,.int .u64 L0,.int .u64 T0]*(numsP .u64 (.slice ba B.length bc) B*(numsP .u64 (.slice (some ⟨g,0,none⟩) C.length cc) C*F))):=⟨_,_,hsx.perm (by ac_rfl)⟩;clear hs;refine wp_region_past (fun w'=>w'.cell? ⟨b,1,none⟩=some (.slice (some ⟨g,0,none⟩) C.length cc)∧w'.cell? ⟨g,i,none⟩=some (.int .u64 (at_ C i))) 11 [(0,0),(1,0),(2,0),(3,1),(4,0),(5,0),(6,2),(7,0),(8,1),(9,0),(10,0),(11,3)] (by kernel_rfl) (by kernel_rfl) (fun _ _ _ _ h=>h) ⟨own_cell,own_cell⟩ ?_
  iterate 6 (first | refine past_pS ?_ | refine past_rS ?_ | refine past_pN ?_ | refine past_rN ?_)
  refine past_G rfl (by rfl) (fun K hK=>?_);go_wp2_with fail;refine (hW2.out _ _ _ _ _ _ own_it).mono ?_;rintro e w' ⟨rfl,rfl⟩;go_wp2_with fail;refine ⟨⟨own_cell,own_cell⟩,?_⟩
  iterate 4 (first | refine past_pS ?_ | refine past_rS ?_ | refine past_pN ?_ | refine past_rN ?_)
  refine past_free (fun K hK=>?_);simp only [zqS,zqZ];rw [if_pos (by rfl)];go_wp2_with fail;refine past_done ?_;go_wp2_with fail;refine (hM.out _).mono ?_;rintro e w' ⟨rfl,rfl⟩;go_wp2_with fail;refine wp_gen (w0:=w0) ?_;intro wy hsy;clear hsx;have hb1:(x<L0)=True∨(x<L0)=False:=by by_cases h:x<L0<;>simp [h]
  have hb2:(T0<x)=True∨(T0<x)=False:=by by_cases h:T0<x<;>simp [h]
  rcases hb1 with hb1 | hb1<;>rcases hb2 with hb2 | hb2
  all_goals
   refine wp_region_past (fun w'=>w'.cell? ⟨b,4,none⟩=some (.int .u64 L0)∧w'.cell? ⟨b,5,none⟩=some (.int .u64 T0)) 16 [(0,0),(1,0),(2,0),(3,0),(4,0),(5,1),(6,0),(7,0),(8,0),(9,0),(10,0),(11,1),(12,0),(13,0),(14,0),(15,0),(16,3),(17,0),(18,0),(19,3)] (by kernel_rfl) (by kernel_rfl) (fun _ _ _ _ h=>h) ⟨own_cell,own_cell⟩ ?_
   iterate 16 (first | refine past_pS ?_ | refine past_rS ?_ | refine past_pN ?_ | refine past_rN ?_)
   refine past_free (fun K hK=>?_);simp only [zqS,zqZ];rw [if_pos (by rfl)];go_wp2_with fail
   iterate 2 (first | refine past_pS ?_ | refine past_rS ?_ | refine past_pN ?_ | refine past_rN ?_)
   refine past_free (fun K hK=>?_);simp only [zqS,zqZ];rw [if_pos (by rfl)];go_wp2_with fail;refine past_done ?_;go_wp2_with fail;go_ret;exact hi_end (by omega) ⟨_,_,own_it⟩
theorem numsG_upd {κ:IntKind} {w0 w:World} {F:HP} {g off n cap k:Nat} {l:List Int} (hs:Sat w0 w (numsP κ (.slice (some ⟨g,off,none⟩) n cap) l*F)) (hk:k<l.length) (x:Int) :
  Sat w0 (w.setCell ⟨g,off+k,none⟩ (.int κ x)) (numsP κ (.slice (some ⟨g,off,none⟩) n cap) (l.set k x)*F):=by
 rcases hs.slice_out with ⟨e,_⟩ | ⟨g',off',cap',sp,e,h1,h2,hx,hsp,hs'⟩
 ·cases e
 ·simp only [Value.slice.injEq,Option.some.injEq,Addr.mk.injEq] at e;obtain ⟨⟨rfl,rfl,_⟩,rfl,rfl⟩:=e;have h3:=hs'.set (j:=k) (by rw [List.length_append,List.length_map];omega) (.int κ x);rw [List.set_append_left _ _ (by rw [List.length_map];exact hk),← List.map_set] at h3;have h4:=Sat.slice_in (k:=1) (n:=l.length) h3 h1 h2 (by simp) hsp;unfold numsP;rw [List.length_set];exact h4
instance (priority:=1300) Upd.numsG (κ:IntKind) (g off n cap k:Nat) (l:List Int) (x:Int) [h:Lt k l.length]:Upd (numsP κ (.slice (some ⟨g,off,none⟩) n cap) l) g (off+k) (.int κ x) (numsP κ (.slice (some ⟨g,off,none⟩) n cap) (l.set k x)):=⟨fun hs=>numsG_upd hs h.lt x⟩
theorem rCounts (v u:Value) (bd l:List Int) (w0:World) (hv:RdN .u64 w0 v bd) (hu:RdN .u64 w0 u l) (hb:bd.length≤1000) (hl:l.length≤1000) (hr:∀ y∈l,0≤y∧y<18446744073709551616) :
  Calls Tryz.prog 61 #[v,u] w0 (Ret w0 fun v'=>numsP .u64 v' (cntF bd l)):=by
 have hs:=Sat.start w0;have Hr:=hid hr;have hW:=hid (fun (w:World) (x:Int) (h:Sat w0 w any)=>rWhere v bd x w (hv.later h) hb);obtain ⟨a1,cap1,b1,off1,rfl,hcap1,hbig1,ha1,hc1⟩:=hv;obtain ⟨a2,cap2,b2,off2,rfl,hcap2,hbig2,ha2,hc2⟩:=hu;unfold maxLen at hbig1 hbig2;have Ha2:=hid ha2;have Hc2:=hid hc2;clear ha1 hc1 ha2 hc2 hr
 go_enter Tryz.func61,Tryz.ntmps61
 go_wp2_with fail;refine wp_gen (w0:=w0) ?_;intro ww hsw;clear hs
 go_loopw [5,6] (fun ov i wr=>∃ (k:Nat) (oa:Option Addr) (oc:Nat) (L:List Int),k≤bd.length∧L.length=k+1∧Hid (L=List.replicate (k+1) 0)∧ov=.slice oa L.length oc∧i=.int .i64 k∧Sat w0 wr (numsP .u64 (.slice oa L.length oc) L*emp)) (fun _ i _=>bd.length-(intOf i).toNat)
 case atStart=>exact ⟨0,_,_,[0],Nat.zero_le _,rfl,hid rfl,rfl,rfl,hi_made w0.heap.size [0] (by decide) own_it⟩
 case round =>
  obtain ⟨k,oa,oc,L,hk,hLl,hL,rfl,rfl,hsr⟩:=hrel;clear hsw
  by_cases hlt:k<bd.length
  ·have hd:decide ((k:Int)<(bd.length:Int))=true:=by simp;omega
   go_wp2_with (first | (at_builtin;refine wpList_append_nums rfl rfl rfl rfl (by omega) ?_;intro ap ac aL aw ahL ah1 ah2 ahs _) | (refine wpList_slice_from rfl rfl rfl rfl (by omega) (by omega) ?_;intro px pc pL php phL ph1 ph2) | (refine wpList_slice_to rfl rfl rfl rfl (by omega) (by omega) ?_;intro px pc pL php phL ph1 ph2));go_roundw
   case rel =>
    refine ⟨k+1,ap,ac,aL,by omega,by omega,hid ?_,rfl,by go_num,own_left⟩;rw [ahL,hL.out];simp [List.replicate_succ']
   case measure=>simp [intOf];omega
  ·have hd:decide ((k:Int)<(bd.length:Int))=false:=by simp;omega
   obtain rfl:k=bd.length:=by omega
   obtain ⟨g,off,rfl⟩:=hsr.someA oa (by omega);have hL33:L.length≤1001:=by omega
   replace hLl:=hid hLl;go_wp2_with fail;refine wp_gen (w0:=w0) ?_;intro wq hsq;clear hsr
   go_loopw [7] (fun i wr=>∃ (k:Nat) (C:List Int),k≤l.length∧C.length=L.length∧i=.int .i64 k∧Hid (C=(l.take k).foldl (cntA bd) L)∧Sat w0 wr (numsP .u64 (.slice (some ⟨g,off,none⟩) L.length oc) C*emp)) (fun i _=>l.length-(intOf i).toNat)
   case atStart=>exact ⟨0,L,Nat.zero_le _,rfl,rfl,hid rfl,own_left⟩
   case round =>
    obtain ⟨k,C,hk2,hCl,rfl,hC,hsc⟩:=hrel;clear hsq
    by_cases hlt2:k<l.length
    ·obtain rfl:=Ha2.out (by intro e;simp [e] at hlt2);have c1:=Hc2.out k hlt2;rw [at_def] at c1;obtain ⟨y0,y1⟩:=at_rng Hr.out k;have hn:Hid (C.set (whr bd (at_ l k)) ((at_ C (whr bd (at_ l k))+1)%18446744073709551616)=(l.take (k+1)).foldl (cntA bd) L):=hid (by rw [foldl_snoc (cntA bd) L hlt2,← hC.out];rfl);have hil:=at_lt_whr bd (at_ l k);generalize at_ l k=x at c1 y0 y1 hn hil;have hW2:=hid (fun (w:World) (h:Sat w0 w any)=>hW.out w x h);generalize whr bd x=i at hn hil hW2;have hi2:i<C.length:=by have:=hLl.out;omega
     haveI:Lt i C.length:=⟨hi2⟩;haveI:Old w0 b2 (off2+k) (.int .u64 x):=⟨c1⟩;have hiL:i<L.length:=by omega
     have hd2:decide ((k:Int)<(l.length:Int))=true:=by simp;omega
     clear hC hil;go_wp2_with fail;refine (hW2.out _ own_left).mono ?_;rintro e w' ⟨rfl,rfl⟩;go_wp2_with fail;go_roundw
     case rel =>
      refine ⟨k+1,_,by omega,?_,by go_num,hn,?_⟩
      ·rw [List.length_set];exact hCl
      ·have e1:IntKind.u64.wrap (at_ C i+1)=(at_ C i+1)%18446744073709551616:=by simp [IntKind.wrap,IntKind.bits,IntKind.signed]
       rw [← e1,at_get hi2];exact own_left
     case measure=>simp [intOf];omega
    ·have hd2:decide ((k:Int)<(l.length:Int))=false:=by simp;omega
     have hfin:=hid (show C=cntF bd l by
      have e:l.take k=l:=List.take_of_length_le (by omega);rw [hC.out,hL.out,e];rfl)
     go_wp2_with fail;go_ret;exact ⟨_,rfl,by rw [← hfin.out];rw [← hCl] at hsc ⊢;exact hsc.perm (star_emp _)⟩
abbrev jbCells (j:Jb):List Value:=[.int .i64 j.task,.int .u32 j.num,.int .u64 j.rel,.int .u64 j.fin,.bool j.ended,.bool j.missed,.int .u64 j.lower,.int .u64 j.bound,.bool j.tidy]
instance encJb:Enc Jb 9 where
 enc j:=jbCells j
 len _:=rfl
 one t:=by intro u hu;simp at hu;rcases hu with rfl | rfl | rfl | rfl | rfl | rfl | rfl | rfl | rfl<;>rfl
 dft:=jb0
 pos:=by decide
instance:ElemR Tryz.prog 98 Jb 9 encJb 110 64 (.agg #[.int .i64 0,.int .u32 0,.int .u64 0,.int .u64 0,.bool false,.bool false,.int .u64 0,.int .u64 0,.bool false]):=⟨⟨by kernel_rfl,by kernel_rfl,rfl⟩,by decide⟩
theorem jb_at {wr:World} {a:Option Addr} {n c:Nat} {l:List Jb} {k:Nat} (h:RdR wr (.slice a n c) l) (hlt:k<l.length):∃ g off,a=some ⟨g,off,none⟩∧wr.rangeAt g (off+k*9) (jbCells (jg l k)):=by
 obtain ⟨a2,cap2,g,off2,e,h3,h4,h5,h6⟩:=h;simp only [Value.slice.injEq] at e;obtain ⟨rfl,_,rfl⟩:=e;obtain rfl:=h5 (by rintro rfl;simp at hlt);refine ⟨g,off2,rfl,fun j v hj=>?_⟩;have hj9:j<9:=(List.getElem?_eq_some_iff.1 hj).1;have h7:=cellsOf_at (E:=encJb) (l:=l) (k:=k) (c:=j) hlt hj9;rw [Nat.add_assoc];exact h6 _ _ (h7.trans hj)
def SpR (w0:World) (bd X:List Int) (e:Ending) (w':World):Prop :=
 (¬ Right bd∧e=.returned (.tuple #[.pointer none,.int .i64 1])∧Sat w0 w' emp) ∨
 (Right bd∧∃ (b:Nat) (ba:Option Addr) (bc g cc:Nat) (le tp:Int),e=.returned (.tuple #[.pointer (some ⟨b,0,none⟩),.int .i64 0])∧Sat w0 w' (hiP b ba bc g cc X.length (satF X) le tp bd (cntF bd X)*emp))
theorem cntF_len (bd X:List Int):(cntF bd X).length=bd.length+1:=by unfold cntF;rw [fold_len];simp
theorem cntF_rng (bd:List Int):∀ (X:List Int), ∀ y∈cntF bd X,0≤y∧y<18446744073709551616:=by
 have key:∀ (X C:List Int),(∀ y∈C,0≤y∧y<18446744073709551616)→∀ y∈X.foldl (cntA bd) C,0≤y∧y<18446744073709551616:=by
  intro X
  induction X with
  | nil=>intro C h;exact h
  | cons v X ih=>intro C h;rw [List.foldl_cons];exact ih _ (cntA_rng h)
 exact fun X=>key X _ fun y hy=>by rw [List.eq_of_mem_replicate hy];decide
theorem satF_rng:∀ (X:List Int),(∀ y∈X,0≤y∧y<18446744073709551616)→0≤satF X∧satF X<18446744073709551616:=by
 have key:∀ (X:List Int) (s:Int),(0≤s∧s<18446744073709551616)→(∀ y∈X,0≤y∧y<18446744073709551616)→0≤X.foldl satA s∧X.foldl satA s<18446744073709551616:=by
  intro X
  induction X with
  | nil=>intro s h _;exact h
  | cons v X ih=>intro s h hx;rw [List.foldl_cons];exact ih _ (satA_rng h (hx v (by simp))) fun y hy=>hx y (by simp [hy])
 exact fun X h=>key X 0 (by decide) h
theorem wrapU (x:Int):IntKind.u64.wrap x=x%18446744073709551616:=by simp [IntKind.wrap,IntKind.bits,IntKind.signed]
theorem hi_snoc {w0 w:World} {b:Nat} {ba:Option Addr} {bc g cc:Nat} {le tp:Int} {bd X:List Int} {x:Int} {F:HP} (hs:Sat w0 w (hiP b ba bc g cc ((X.length:Int)+1) (satA (satF X) (IntKind.u64.wrap x)) le tp bd (cntA bd (cntF bd X) (IntKind.u64.wrap x))*F)) :
  Sat w0 w (hiP b ba bc g cc ((X++[x%18446744073709551616]).length:Nat) (satF (X++[x%18446744073709551616])) le tp bd (cntF bd (X++[x%18446744073709551616]))*emp):=by
 rw [wrapU] at hs;have e1:((X++[x%18446744073709551616]).length:Int)=(X.length:Int)+1:=by simp
 have e2:satF (X++[x%18446744073709551616])=satA (satF X) (x%18446744073709551616):=by unfold satF;rw [List.foldl_append];rfl
 have e3:cntF bd (X++[x%18446744073709551616])=cntA bd (cntF bd X) (x%18446744073709551616):=by unfold cntF;rw [List.foldl_append];rfl
 rw [e1,e2,e3];exact hs.fst.perm (star_emp _).symm
theorem stSpread (v u:Value) (t:Int) (js:List Jb) (bd:List Int) (w0:World) (hv:RdR w0 v js) (hu:RdN .u64 w0 u bd) (hj:js.length≤300) (hb:bd.length≤1000) (hr:∀ y∈bd,0≤y∧y<18446744073709551616) :
  Calls Tryz.prog 58 #[v,.int .i64 t,u] w0 (SpR w0 bd (tks t js)):=by
 have hs:=Sat.start w0;haveI:OldRec w0 encJb v js:=⟨hv⟩;have hN:=hid (hNew u bd w0 w0 emp hs hu hb);obtain ⟨a1,cap1,b1,off1,rfl,hcap1,hbig1,_,_⟩:=hv;unfold maxLen at hbig1;have Hr:=hid hr;clear hr hu hb
 go_enter Tryz.func58,Tryz.ntmps58
 go_wp2_with fail;refine hN.out.mono ?_;intro e w1 hpost
 rcases hpost with ⟨hno,rfl,hs1⟩ | ⟨hR,b,ba,bc,g,cc,rfl,hs1⟩
 ·go_wp2_with fail;go_ret2;exact .inl ⟨hno,rfl,own_left⟩
 ·have HR:=hid hR;clear hN hR hs;go_wp2_with fail;refine wp_gen (w0:=w0) ?_;intro ww hsw;clear hs1
  go_loopw [22] (fun i wr=>∃ (k:Nat) (le tp:Int),k≤js.length∧i=.int .i64 k∧Sat w0 wr (hiP b ba bc g cc (tks t (js.take k)).length (satF (tks t (js.take k))) le tp bd (cntF bd (tks t (js.take k)))*emp)) (fun i _=>js.length-(intOf i).toNat)
  case atStart=>exact ⟨0,0,0,Nat.zero_le _,rfl,hsw⟩
  case round =>
   obtain ⟨k,le,tp,hk,rfl,hsr⟩:=hrel;clear hsw
   by_cases hlt:k<js.length
   ·obtain ⟨g1,o1,rfl,hrange⟩:=jb_at (wr:=wr) (a:=a1) (n:=js.length) (c:=cap1) (l:=js) (k:=k) rdr hlt;have hd:decide ((k:Int)<(js.length:Int))=true:=by simp;omega
    have hsn:=hid (tks_snoc t hlt);have hX1:=(show (tks t (js.take k)).length≤300 by have:=tks_len t (js.take k);simp at this;omega);have hX2:=hid (tks_rng t (js.take k));generalize tks t (js.take k)=X at hsr hsn hX1 hX2;generalize jg js k=j at hrange hsn;have hA:=hid (fun (w:World) (F:HP) (x:Int) (hx:0≤x∧x<18446744073709551616) (hs:Sat w0 w (hiP b ba bc g cc X.length (satF X) le tp bd (cntF bd X)*F))=>hAdd b ba bc g cc X.length (satF X) le tp bd (cntF bd X) x w0 w F hs HR.out Hr.out (cntF_len bd X) (cntF_rng bd X) hx (by omega) (satF_rng X hX2.out))
    by_cases h1:j.task=t
    ·have d1:(j.task==t)=true:=by simp [h1]
     by_cases h2:j.ended=true
     ·rw [if_pos ⟨h2,h1⟩] at hsn;go_wp2_with (refine wpList_load_mid rfl _ _ rfl _ _ rfl _ _ hrange Tryz.underlying110 rfl (by kernel_rfl) ?_);refine (hA.out _ _ _ (by rw [wrapU];exact ⟨Int.emod_nonneg _ (by decide),Int.emod_lt_of_pos _ (by decide)⟩) Go.Sx.own).mono ?_;rintro e w2 ⟨rfl,le2,tp2,hs2⟩;clear hsr;go_wp2_with fail;go_roundw
      case rel =>
       refine ⟨k+1,le2,tp2,by omega,by go_num,?_⟩;rw [hsn.out];exact hi_snoc hs2
      case measure=>simp [intOf];omega
     ·have h2':j.ended=false:=by simpa using h2
      rw [if_neg (fun h=>h2 h.1),List.append_nil] at hsn;go_wp2_with (refine wpList_load_mid rfl _ _ rfl _ _ rfl _ _ hrange Tryz.underlying110 rfl (by kernel_rfl) ?_);go_roundw
      case rel =>
       refine ⟨k+1,le,tp,by omega,by go_num,?_⟩;rw [hsn.out];exact own_left
      case measure=>simp [intOf];omega
    ·have d1:(j.task==t)=false:=by simp [h1]
     rw [if_neg (fun h=>h1 h.2),List.append_nil] at hsn;go_wp2_with (refine wpList_load_mid rfl _ _ rfl _ _ rfl _ _ hrange Tryz.underlying110 rfl (by kernel_rfl) ?_);go_roundw
     case rel =>
      refine ⟨k+1,le,tp,by omega,by go_num,?_⟩;rw [hsn.out];exact own_left
     case measure=>simp [intOf];omega
   ·have hd:decide ((k:Int)<(js.length:Int))=false:=by simp;omega
    have e:js.take k=js:=List.take_of_length_le (by omega);rw [e] at hsr;go_wp2_with fail;go_ret2;exact .inr ⟨HR.out,b,ba,bc,g,cc,le,tp,rfl,own_left⟩
end Go.Proofs.YtndjjndllfdklaaGreatDoor
namespace Go.Proofs.YtndjjndllfdklaaGreatDoor
open Go.RowKit Go.Sx Go.Hi Go.ChangeShapes Go.WideShapes Go.ChangeAt
section
variable {H:Type} {enc:TypeId×Value→H} {W:World}
theorem fld_bool {P:Program} {t:TypeId} {fs:Array Field} {fuel:Nat} {cs:List Value} {x:DataW H×List MemPlace} (ht:P.underlying t=some (.struct fs)) (h:DataW.trod enc P W 0 (fun _=>true) true fuel t cs=some x)
  {T:TypeId} {i o:Nat} (ho:o<P.cellsOf t) (hT:P.underlying T=some .bool) (hg:∃ g:Field,fs[i]?=some g∧g.offset=o∧g.type=T∧P.cellsOf T=1):∃ m:Bool,cs[o]?=some (.bool m):=by
 obtain ⟨v,n,y,h1,h2⟩:=fld_one ht h ho hg;obtain ⟨m,e,_⟩:=DataW.trod_bool hT h2;simp only [List.cons.injEq,and_true] at e;exact ⟨m,by rw [h1,e]⟩
theorem cs9 {cs:List Value} {a b c d e f g h i:Value} (hl:cs.length=9) (h0:cs[0]?=some a) (h1:cs[1]?=some b) (h2:cs[2]?=some c) (h3:cs[3]?=some d) (h4:cs[4]?=some e) (h5:cs[5]?=some f) (h6:cs[6]?=some g) (h7:cs[7]?=some h) (h8:cs[8]?=some i):cs=[a,b,c,d,e,f,g,h,i]:=by
 match cs,hl with
 | [_,_,_,_,_,_,_,_,_],_=>simp_all
theorem trod_jb (n:Nat) (cs:List Value) (x:DataW H×List MemPlace) (h:Trd enc W n 110 cs x):∃ i:Jb,cs=encJb.enc i∧True:=by
 have hu:=Tryz.underlying110;have hs:Tryz.prog.cellsOf 110=9:=by kernel_rfl
 have hi:Tryz.prog.underlying 3=some (.int .i64):=Tryz.underlying3;have hk:Tryz.prog.underlying 25=some (.int .u32):=Tryz.underlying25;have hw:Tryz.prog.underlying 26=some (.int .u64):=Tryz.underlying26;have hb:Tryz.prog.underlying 4=some .bool:=Tryz.underlying4;have ci:Tryz.prog.cellsOf 3=1:=by kernel_rfl
 have ck:Tryz.prog.cellsOf 25=1:=by kernel_rfl
 have cw:Tryz.prog.cellsOf 26=1:=by kernel_rfl
 have cb:Tryz.prog.cellsOf 4=1:=by kernel_rfl
 obtain ⟨m0,a0,_⟩:=fld_int hu h (i:=0) (o:=0) (by rw [hs];decide) hi ⟨_,rfl,rfl,rfl,ci⟩;obtain ⟨m1,a1,_⟩:=fld_int hu h (i:=1) (o:=1) (by rw [hs];decide) hk ⟨_,rfl,rfl,rfl,ck⟩;obtain ⟨m2,a2,_⟩:=fld_int hu h (i:=2) (o:=2) (by rw [hs];decide) hw ⟨_,rfl,rfl,rfl,cw⟩;obtain ⟨m3,a3,_⟩:=fld_int hu h (i:=3) (o:=3) (by rw [hs];decide) hw ⟨_,rfl,rfl,rfl,cw⟩;obtain ⟨m4,a4⟩:=fld_bool hu h (i:=4) (o:=4) (by rw [hs];decide) hb ⟨_,rfl,rfl,rfl,cb⟩;obtain ⟨m5,a5⟩:=fld_bool hu h (i:=5) (o:=5) (by rw [hs];decide) hb ⟨_,rfl,rfl,rfl,cb⟩;obtain ⟨m6,a6,_⟩:=fld_int hu h (i:=6) (o:=6) (by rw [hs];decide) hw ⟨_,rfl,rfl,rfl,cw⟩;obtain ⟨m7,a7,_⟩:=fld_int hu h (i:=7) (o:=7) (by rw [hs];decide) hw ⟨_,rfl,rfl,rfl,cw⟩;obtain ⟨m8,a8⟩:=fld_bool hu h (i:=8) (o:=8) (by rw [hs];decide) hb ⟨_,rfl,rfl,rfl,cb⟩;exact ⟨⟨m0,m1,m2,m3,m4,m5,m6,m7,m8⟩,cs9 ((trod_flds hu h).1.trans hs) a0 a1 a2 a3 a4 a5 a6 a7 a8,trivial⟩
theorem opened_jobs {base:Nat} {v:Value} {d:DataW H} {p:List MemPlace} (hok:Value.okWide Tryz.prog W .any base 98 v) (h:DataW.Trod enc Tryz.prog W 0 (fun _=>true) true 98 v d p) :
  ∃ l:List Jb,RdR W v l:=by
 obtain ⟨a,len,cap,rfl⟩:=okWide_slice Tryz.underlying98 hok;obtain ⟨fuel,hf⟩:=h;obtain ⟨v,l,e,hl,_⟩:=trod_recs (E:=encJb) (G:=fun _=>True) Tryz.underlying98 (by kernel_rfl) trod_jb hf;simp [Value.cells] at e;subst e;exact ⟨l,hl⟩
end
end Go.Proofs.YtndjjndllfdklaaGreatDoor
namespace Go.Vm
open Go.RowKit
noncomputable section
inductive T (α:Type) where
 | e
 | n (v:Option α) (l r:T α)
def T.get {α:Type} (t:T α):Nat→Option α :=
 T.rec (motive:=fun _=>Nat→Option α) (fun _=>none) (fun v _ _ gl gr i=>Nat.rec (motive:=fun _=>Option α) v (fun j _=>Bool.rec (motive:=fun _=>Option α) (gr (Nat.shiftRight j 1)) (gl (Nat.shiftRight j 1)) (Nat.beq (Nat.land j 1) 0)) i) t
def T.set {α:Type} (f:Nat):T α→Nat→α→T α :=
 Nat.rec (motive:=fun _=>T α→Nat→α→T α) (fun _ _ _=>.e)
  (fun _ ih t i x=>T.rec (motive:=fun _=>T α)
   (Nat.rec (motive:=fun _=>T α) (.n (some x) .e .e) (fun j _=>Bool.rec (motive:=fun _=>T α) (.n none .e (ih .e (Nat.shiftRight j 1) x)) (.n none (ih .e (Nat.shiftRight j 1) x) .e) (Nat.beq (Nat.land j 1) 0)) i)
   (fun v l r _ _=>Nat.rec (motive:=fun _=>T α) (.n (some x) l r) (fun j _=>Bool.rec (motive:=fun _=>T α) (.n v l (ih r (Nat.shiftRight j 1) x)) (.n v (ih l (Nat.shiftRight j 1) x) r) (Nat.beq (Nat.land j 1) 0)) i) t) f
theorem brec {α:Type} (a b:α) (j:Nat):(Bool.rec (motive:=fun _=>α) a b (Nat.beq (Nat.land j 1) 0))=if j%2=0 then b else a:=by
 have h:Nat.land j 1=j%2:=Nat.and_one_is_mod j;rw [h]
 by_cases e:j%2=0
 ·rw [if_pos e,e];rfl
 ·rw [if_neg e,show Nat.beq (j%2) 0=false by rw [Bool.eq_false_iff];intro x;exact e (Nat.eq_of_beq_eq_true x)]
theorem shr (j:Nat):Nat.shiftRight j 1=j / 2:=Nat.shiftRight_eq_div_pow j 1
theorem T.get_e {α:Type} (j:Nat):(T.e:T α).get j=none:=rfl
theorem T.get_n0 {α:Type} (v:Option α) (l r:T α):(T.n v l r).get 0=v:=rfl
theorem T.get_ns {α:Type} (v:Option α) (l r:T α) (j:Nat):(T.n v l r).get (j+1)=if j%2=0 then l.get (j / 2) else r.get (j / 2):=by
 have:=brec (r.get (Nat.shiftRight j 1)) (l.get (Nat.shiftRight j 1)) j;rw [shr] at this;exact this
theorem T.set_0 {α:Type} (t:T α) (i:Nat) (x:α):T.set 0 t i x=.e:=rfl
theorem T.set_e0 {α:Type} (f:Nat) (x:α):T.set (f+1) .e 0 x=.n (some x) .e .e:=rfl
theorem T.set_n0 {α:Type} (f:Nat) (v:Option α) (l r:T α) (x:α):T.set (f+1) (.n v l r) 0 x=.n (some x) l r:=rfl
theorem T.set_es {α:Type} (f j:Nat) (x:α):T.set (f+1) .e (j+1) x=if j%2=0 then .n none (T.set f .e (j / 2) x) .e else .n none .e (T.set f .e (j / 2) x):=by
 have:=brec (T.n none .e (T.set f .e (Nat.shiftRight j 1) x)) (T.n none (T.set f .e (Nat.shiftRight j 1) x) .e) j;rw [shr] at this;exact this
theorem T.set_ns {α:Type} (f j:Nat) (v:Option α) (l r:T α) (x:α):T.set (f+1) (.n v l r) (j+1) x=if j%2=0 then .n v (T.set f l (j / 2) x) r else .n v l (T.set f r (j / 2) x):=by
 have:=brec (T.n v l (T.set f r (Nat.shiftRight j 1) x)) (T.n v (T.set f l (Nat.shiftRight j 1) x) r) j;rw [shr] at this;exact this
theorem T.get_set {α:Type}:∀ (f:Nat) (t:T α) (i:Nat) (x:α) (j:Nat) (y:α),(T.set f t i x).get j=some y→(j=i∧y=x)∨(j≠i∧t.get j=some y):=by
 intro f
 induction f with
 | zero=>intro t i x j y h;simp only [T.set_0,T.set_e0,T.set_n0,T.set_es,T.set_ns,T.get_e] at h;cases h
 | succ f ih =>
  intro t i x j y h
  cases t with
  | e =>
   cases i with
   | zero =>
    cases j with
    | zero=>simp only [T.set_0,T.set_e0,T.set_n0,T.set_es,T.set_ns,T.get_e,T.get_n0,T.get_ns,Option.some.injEq] at h;exact .inl ⟨rfl,h.symm⟩
    | succ j=>simp only [T.set_0,T.set_e0,T.set_n0,T.set_es,T.set_ns,T.get_e,T.get_n0,T.get_ns] at h;split at h<;>cases h
   | succ i =>
    cases j with
    | zero=>simp only [T.set_0,T.set_e0,T.set_n0,T.set_es,T.set_ns] at h;split at h<;>(simp only [T.get_n0] at h;cases h)
    | succ j =>
     simp only [T.set_0,T.set_e0,T.set_n0,T.set_es,T.set_ns] at h
     split at h
     ·rename_i hi
      simp only [T.get_e,T.get_n0,T.get_ns] at h
      split at h
      ·rename_i hj
       rcases ih _ _ _ _ _ h with ⟨e,e2⟩ | ⟨_,e2⟩
       ·exact .inl ⟨by omega,e2⟩
       ·rw [T.get_e] at e2;cases e2
      ·cases h
     ·rename_i hi
      simp only [T.get_e,T.get_n0,T.get_ns] at h
      split at h
      ·cases h
      ·rename_i hj
       rcases ih _ _ _ _ _ h with ⟨e,e2⟩ | ⟨_,e2⟩
       ·refine .inl ⟨?_,e2⟩;have a:=Nat.div_add_mod i 2;have b:=Nat.div_add_mod j 2;have c:=Nat.mod_lt i (show 2 > 0 by decide);have d:=Nat.mod_lt j (show 2 > 0 by decide);have hi':i%2≠0:=fun e=>hi e;have hj':j%2≠0:=fun e=>hj e;omega
       ·rw [T.get_e] at e2;cases e2
  | n v l r =>
   cases i with
   | zero =>
    cases j with
    | zero=>simp only [T.set_0,T.set_e0,T.set_n0,T.set_es,T.set_ns,T.get_e,T.get_n0,T.get_ns,Option.some.injEq] at h;exact .inl ⟨rfl,h.symm⟩
    | succ j=>exact .inr ⟨by omega,h⟩
   | succ i =>
    cases j with
    | zero=>simp only [T.set_0,T.set_e0,T.set_n0,T.set_es,T.set_ns] at h;split at h<;>exact .inr ⟨by omega,h⟩
    | succ j =>
     have a:=Nat.div_add_mod i 2;have b:=Nat.div_add_mod j 2;have c:=Nat.mod_lt i (show 2 > 0 by decide);have d:=Nat.mod_lt j (show 2 > 0 by decide);simp only [T.set_0,T.set_e0,T.set_n0,T.set_es,T.set_ns] at h
     split at h
     ·rename_i hi
      simp only [T.get_e,T.get_n0,T.get_ns] at h ⊢
      split at h
      ·rename_i hj
       rcases ih _ _ _ _ _ h with ⟨e,e2⟩ | ⟨e,e2⟩
       ·exact .inl ⟨by omega,e2⟩
       ·exact .inr ⟨by omega,by rw [if_pos hj];exact e2⟩
      ·rename_i hj
       have hj':j%2≠0:=fun e=>hj e;exact .inr ⟨by omega,by rw [if_neg hj'];exact h⟩
     ·rename_i hi
      have hi':i%2≠0:=fun e=>hi e;simp only [T.get_e,T.get_n0,T.get_ns] at h ⊢
      split at h
      ·rename_i hj
       exact .inr ⟨by omega,by rw [if_pos hj];exact h⟩
      ·rename_i hj
       have hj':j%2≠0:=fun e=>hj e
       rcases ih _ _ _ _ _ h with ⟨e,e2⟩ | ⟨e,e2⟩
       ·exact .inl ⟨by omega,e2⟩
       ·exact .inr ⟨by omega,by rw [if_neg hj'];exact e2⟩
inductive LR {α β:Type} (R:α→β→Prop):List α→List β→Prop
 | nil:LR R [] []
 | cons {a:α} {b:β} {l:List α} {m:List β} (h:R a b) (t:LR R l m):LR R (a::l) (b::m)
namespace LR
variable {α β:Type} {R S:α→β→Prop} {l:List α} {m:List β}
theorem len (h:LR R l m):l.length=m.length:=by induction h with | nil=>rfl | cons _ _ ih=>simp [ih]
theorem mono (h:LR R l m) (k:∀ a b,R a b→S a b):LR S l m:=by induction h with | nil=>exact .nil | cons h _ ih=>exact .cons (k _ _ h) ih
theorem get (h:LR R l m):∀ {i:Nat} {a:α},l[i]?=some a→∃ b,m[i]?=some b∧R a b:=by
 induction h with
 | nil=>intro i a e;simp at e
 | @cons a b l m h _ ih =>
  intro i x e
  cases i with
  | zero=>simp only [List.getElem?_cons_zero,Option.some.injEq] at e;subst e;exact ⟨b,rfl,h⟩
  | succ i=>simp only [List.getElem?_cons_succ] at e;obtain ⟨y,e1,e2⟩:=ih e;exact ⟨y,by simpa using e1,e2⟩
theorem append {l':List α} {m':List β} (h:LR R l m) (k:LR R l' m'):LR R (l++l') (m++m'):=by
 induction h with | nil=>exact k | cons h _ ih=>exact .cons h ih
theorem of_get:∀ {l:List α} {m:List β},l.length=m.length→(∀ (i:Nat) (a:α) (b:β),l[i]?=some a→m[i]?=some b→R a b)→LR R l m
 | [],[],_,_=>.nil
 | a::l,b::m,h,k=>.cons (k 0 a b rfl rfl) (of_get (by simpa using h) fun i a b e1 e2=>k (i+1) a b (by simpa using e1) (by simpa using e2))
theorem take (h:LR R l m) (n:Nat):LR R (l.take n) (m.take n):=by
 induction h generalizing n with
 | nil=>simp;exact .nil
 | cons h _ ih=>cases n with
  | zero=>exact .nil
  | succ n=>exact .cons h (ih n)
theorem drop (h:LR R l m) (n:Nat):LR R (l.drop n) (m.drop n):=by
 induction h generalizing n with
 | nil=>simp;exact .nil
 | cons h t ih=>cases n with
  | zero=>exact .cons h t
  | succ n=>exact ih n
theorem set {a:α} {b:β} (h:LR R l m) (k:R a b) (n:Nat):LR R (l.set n a) (m.set n b):=by
 induction h generalizing n with
 | nil=>exact .nil
 | cons h t ih=>cases n with
  | zero=>exact .cons k t
  | succ n=>exact .cons h (ih n)
theorem refl {R:α→α→Prop}:∀ {l:List α},(∀ a∈l,R a a)→LR R l l
 | [],_=>.nil
 | a::l,h=>.cons (h a (by simp)) (refl fun b hb=>h b (by simp [hb]))
end LR
abbrev Rho:=Nat→Option (Nat×Nat×Nat)
def UNK:Nat:=4611686018427387904
inductive SR (ρ:Rho):Value→Value→Prop
 | bool (b:Bool):SR ρ (.bool b) (.bool b)
 | int (k:IntKind) (n:Int):SR ρ (.int k n) (.int k n)
 | pnil:SR ρ (.pointer none) (.pointer none)
 | ptr {b o B O N:Nat} (h:ρ b=some (B,O,N)):SR ρ (.pointer (some ⟨b,o,none⟩)) (.pointer (some ⟨B,O+o,none⟩))
 | snil:SR ρ (.slice none 0 0) (.slice none 0 0)
 | sl {b o n c B O N:Nat} (h:ρ b=some (B,O,N)) (hc:c<UNK):SR ρ (.slice (some ⟨b,o,none⟩) n c) (.slice (some ⟨B,O+o,none⟩) n c)
 | su {b o n z c B O N:Nat} (h:ρ b=some (B,O,N)) (hz:0<z) (hn:n≤c) (ht:o+c*z=N) (hm:c≤maxLen):SR ρ (.slice (some ⟨b,o,none⟩) n (UNK+z)) (.slice (some ⟨B,O+o,none⟩) n c)
 | s0 {a a':Addr} {c:Nat}:SR ρ (.slice (some a) 0 UNK) (.slice (some a') 0 c)
 | mnil:SR ρ (.map none) (.map none)
 | map {b B O N:Nat} (h:ρ b=some (B,O,N)):SR ρ (.map (some b)) (.map (some B))
def Sub (ρ ρ':Rho):Prop:=∀ b x,ρ b=some x→ρ' b=some x
theorem Sub.refl (ρ:Rho):Sub ρ ρ:=fun _ _ h=>h
theorem Sub.trans {a b c:Rho} (h:Sub a b) (k:Sub b c):Sub a c:=fun x y e=>k x y (h x y e)
theorem SR.mono {ρ ρ':Rho} {a b:Value} (s:Sub ρ ρ') (h:SR ρ a b):SR ρ' a b:=by
 cases h with
 | bool=>exact .bool _
 | int=>exact .int _ _
 | pnil=>exact .pnil
 | ptr h=>exact .ptr (s _ _ h)
 | snil=>exact .snil
 | sl h hc=>exact .sl (s _ _ h) hc
 | su h hz hn ht hm=>exact .su (s _ _ h) hz hn ht hm
 | s0=>exact .s0
 | mnil=>exact .mnil
 | map h=>exact .map (s _ _ h)
inductive V1 (ρ:Rho):Value→Value→Prop
 | sc {a b:Value} (h:SR ρ a b):V1 ρ a b
 | agg {xs ys:Array Value} (h:LR (SR ρ) xs.toList ys.toList):V1 ρ (.agg xs) (.agg ys)
 | fn {f:FuncId} {xs ys:Array Value} (h:LR (SR ρ) xs.toList ys.toList):V1 ρ (.func (.func f) #[] xs) (.func (.func f) #[] ys)
inductive VR (ρ:Rho):Value→Value→Prop
 | one {a b:Value} (h:V1 ρ a b):VR ρ a b
 | tup {xs ys:Array Value} (h:LR (V1 ρ) xs.toList ys.toList):VR ρ (.tuple xs) (.tuple ys)
theorem V1.mono {ρ ρ':Rho} {a b:Value} (s:Sub ρ ρ') (h:V1 ρ a b):V1 ρ' a b:=by
 cases h with
 | sc h=>exact .sc (h.mono s)
 | agg h=>exact .agg (h.mono fun _ _=>SR.mono s)
 | fn h=>exact .fn (h.mono fun _ _=>SR.mono s)
theorem VR.mono {ρ ρ':Rho} {a b:Value} (s:Sub ρ ρ') (h:VR ρ a b):VR ρ' a b:=by
 cases h with
 | one h=>exact .one (h.mono s)
 | tup h=>exact .tup (h.mono fun _ _=>V1.mono s)
theorem VR.undef {ρ:Rho}:VR ρ undef undef:=.tup .nil
def pl1:Value→Bool
 | .bool _=>true
 | .int _ _=>true
 | .pointer none=>true
 | .slice none 0 0=>true
 | .map none=>true
 | _=>false
def all1:List Value→Bool
 | []=>true
 | v::l=>match pl1 v with
  | true=>all1 l
  | false=>false
def pl:Value→Bool
 | .agg cs=>all1 cs.toList
 | v=>pl1 v
theorem SR.refl1 {ρ:Rho} {a:Value} (h:pl1 a=true):SR ρ a a:=by
 unfold pl1 at h
 split at h
 ·exact .bool _
 ·exact .int _ _
 ·exact .pnil
 ·exact .snil
 ·exact .mnil
 ·cases h
theorem SR.eq1 {ρ:Rho} {a b:Value} (h:pl1 a=true) (r:SR ρ a b):b=a:=by
 cases r<;>first | rfl | (simp [pl1] at h)
theorem all1_mem:∀ {l:List Value},all1 l=true→∀ v∈l,pl1 v=true
 | v::l,h,u,hu=>by
  unfold all1 at h
  split at h
  ·rename_i e
   rcases List.mem_cons.1 hu with rfl | h2
   ·exact e
   ·exact all1_mem h u h2
  ·cases h
theorem LR.eq1 {ρ:Rho}:∀ {l m:List Value},all1 l=true→LR (SR ρ) l m→m=l
 | [],_,_,.nil=>rfl
 | v::l,_,h,.cons r t=>by
  have h1:=all1_mem h;unfold all1 at h
  split at h
  ·rw [SR.eq1 (h1 v (by simp)) r,LR.eq1 h t]
  ·cases h
theorem LR.refl1 {ρ:Rho} {l:List Value} (h:all1 l=true):LR (SR ρ) l l:=LR.refl fun a ha=>SR.refl1 (all1_mem h a ha)
theorem V1.refl1 {ρ:Rho} {a:Value} (h:pl a=true):V1 ρ a a:=by
 cases a with
 | agg cs=>exact .agg (LR.refl1 h)
 | _=>exact .sc (SR.refl1 h)
theorem V1.eq1 {ρ:Rho} {a b:Value} (h:pl a=true) (r:V1 ρ a b):b=a:=by
 cases r with
 | sc r=>cases r<;>first | rfl | (simp [pl,pl1] at h)
 | agg r=>have:=LR.eq1 h r;rw [Array.toList_inj.1 this]
 | fn r=>simp [pl,pl1] at h
theorem VR.eq1 {ρ:Rho} {a b:Value} (h:pl a=true) (r:VR ρ a b):b=a:=by
 cases r with
 | one r=>exact r.eq1 h
 | tup r=>simp [pl,pl1] at h
theorem SR.one {ρ:Rho} {a b:Value} (h:SR ρ a b):b.oneCell'=true:=by cases h<;>rfl
theorem SR.cells {ρ:Rho} {a b:Value} (h:SR ρ a b):a.cells=#[a]∧b.cells=#[b]:=by cases h<;>exact ⟨rfl,rfl⟩
def cellsOf:Value→Option (List Value)
 | .agg cs=>some cs.toList
 | .tuple _=>none
 | .func _ _ _=>none
 | v=>some [v]
theorem V1.cells {ρ:Rho} {a b:Value} {l:List Value} (h:V1 ρ a b) (e:cellsOf a=some l):LR (SR ρ) l b.cells.toList:=by
 cases h with
 | sc h =>
  have hb:=h.cells.2;rw [hb];have:l=[a]:=by cases h<;>simp [cellsOf] at e<;>exact e.symm
  subst this;exact .cons h .nil
 | agg h=>simp only [cellsOf,Option.some.injEq] at e;subst e;exact h
 | fn h=>simp [cellsOf] at e
inductive Blk where
 | dead
 | cells (n:Nat) (t:T Value)
 | ro (n:Nat) (t:T Value)
 | mp (es:Array MapEntry) (c:Nat)
 | it (m since:Nat) (seen:Array Nat) (last:Nat)
structure Mem where
 bs:T Blk
 nx:Nat
def FU:Nat:=40
def Mem.put (M:Mem) (b:Nat) (x:Blk):Mem:=⟨M.bs.set FU b x,M.nx⟩
theorem Mem.get_put {M:Mem} {b:Nat} {x:Blk} {j:Nat} {y:Blk} (h:(M.put b x).bs.get j=some y):(j=b∧y=x)∨(j≠b∧M.bs.get j=some y):=T.get_set FU _ _ _ _ _ h
structure MR (w0:World) (ρ:Rho) (M:Mem) (w:World):Prop where
 below:Below w0.heap.size w0 w
 fresh:∀ b,M.nx≤b→ρ b=none
 cel:∀ b n t B O N,M.bs.get b=some (.cells n t)→ρ b=some (B,O,N)→n≤N∧w0.heap.size≤B ∧
  ∀ j,j<N→∃ v',w.cell? ⟨B,O+j,none⟩=some v'∧w.frozen? ⟨B,O+j,none⟩=false∧∀ v,j<n→t.get j=some v→SR ρ v v'
 rom:∀ b n t B O N,M.bs.get b=some (.ro n t)→ρ b=some (B,O,N)→B<w0.heap.size∧∀ j v,j<n→t.get j=some v→pl1 v=true∧w.cell? ⟨B,O+j,none⟩=some v
 mp:∀ b es c B O N,M.bs.get b=some (.mp es c)→ρ b=some (B,O,N)→w0.heap.size≤B∧O=0∧w.heap[B]?=some (.map es c)
 it:∀ b m s k p B O N,M.bs.get b=some (.it m s k p)→ρ b=some (B,O,N)→w0.heap.size≤B∧O=0∧∃ mB mO mN,ρ m=some (mB,mO,mN)∧w.heap[B]?=some (.mapIter (some mB) s k p)
 ap:∀ b1 n1 t1 b2 n2 t2 B O1 N1 O2 N2 j1 j2,M.bs.get b1=some (.cells n1 t1)→M.bs.get b2=some (.cells n2 t2)→ρ b1=some (B,O1,N1)→ρ b2=some (B,O2,N2)→j1<N1→j2<N2→O1+j1=O2+j2→b1=b2
 apo:∀ b1 x1 b2 x2 B O1 N1 O2 N2,M.bs.get b1=some x1→M.bs.get b2=some x2→(∃ es c,x1=.mp es c)∨(∃ m s k p,x1=.it m s k p)→(∃ es c,x2=.mp es c)∨(∃ m s k p,x2=.it m s k p)→ρ b1=some (B,O1,N1)→ρ b2=some (B,O2,N2)→b1=b2
 lim:∀ b B O N,ρ b=some (B,O,N)→B<w.heap.size
structure Grow (ρ:Rho) (M:Mem) (ρ':Rho) (M':Mem):Prop where
 ext:∀ b,b<M.nx→ρ' b=ρ b
 nx:M.nx≤M'.nx
 keep:∀ b y,b<M.nx→ρ b=none→M'.bs.get b=some y→M.bs.get b=some y
theorem Grow.refl (ρ:Rho) (M:Mem):Grow ρ M ρ M:=⟨fun _ _=>rfl,Nat.le_refl _,fun _ _ _ _ h=>h⟩
theorem Grow.trans {ρ ρ1 ρ2:Rho} {M M1 M2:Mem} (h:Grow ρ M ρ1 M1) (k:Grow ρ1 M1 ρ2 M2):Grow ρ M ρ2 M2 :=
 ⟨fun b hb=>(k.ext b (Nat.lt_of_lt_of_le hb h.nx)).trans (h.ext b hb),Nat.le_trans h.nx k.nx,fun b y hb e hy=>h.keep b y hb e (k.keep b y (Nat.lt_of_lt_of_le hb h.nx) ((h.ext b hb).trans e) hy)⟩
theorem MR.sub {w0:World} {ρ ρ':Rho} {M M':Mem} {w:World} (h:MR w0 ρ M w) (g:Grow ρ M ρ' M'):Sub ρ ρ':=fun b x e=>by
 rw [g.ext b ?_];exact e;refine Nat.lt_of_not_le fun hb=>?_;rw [h.fresh b hb] at e;cases e
end
noncomputable section
def wr (t:T Value) (o:Nat):List Value→T Value
 | []=>t
 | v::l=>wr (t.set FU o v) (o+1) l
def rd (t:T Value) (o:Nat):Nat→Option (List Value)
 | 0=>some []
 | n+1=>match t.get o with
  | none=>none
  | some v=>match rd t (o+1) n with
   | none=>none
   | some l=>some (v::l)
theorem get_wr:∀ (vs:List Value) (t:T Value) (o j:Nat) (y:Value),(wr t o vs).get j=some y→(∃ i,j=o+i∧vs[i]?=some y)∨((j<o∨o+vs.length≤j)∧t.get j=some y)
 | [],t,o,j,y,h=>.inr ⟨by simp;omega,h⟩
 | v::l,t,o,j,y,h=>by
  rcases get_wr l _ _ _ _ h with ⟨i,e1,e2⟩ | ⟨h1,h2⟩
  ·exact .inl ⟨i+1,by omega,by simpa using e2⟩
  ·rcases T.get_set _ _ _ _ _ _ h2 with ⟨e1,e2⟩ | ⟨e1,e2⟩
   ·exact .inl ⟨0,by omega,by simp [e2]⟩
   ·exact .inr ⟨by simp;omega,e2⟩
theorem rd_spec:∀ (n:Nat) (t:T Value) (o:Nat) (l:List Value),rd t o n=some l→l.length=n∧∀ i v,l[i]?=some v→t.get (o+i)=some v
 | 0,t,o,l,h=>by simp only [rd,Option.some.injEq] at h;subst h;simp
 | n+1,t,o,l,h=>by
  simp only [rd] at h
  split at h
  ·cases h
  ·rename_i v hv
   split at h
   ·cases h
   ·rename_i l' hl
    simp only [Option.some.injEq] at h;subst h;obtain ⟨a,b⟩:=rd_spec n t (o+1) l' hl;refine ⟨by simp [a],fun i u hu=>?_⟩
    cases i with
    | zero=>simp only [List.getElem?_cons_zero,Option.some.injEq] at hu;subst hu;exact hv
    | succ i=>rw [show o+(i+1)=o+1+i by omega];exact b i u (by simpa using hu)
section
variable {w0 w w':World} {ρ:Rho} {M:Mem}
theorem MR.same (h:MR w0 ρ M w) (hh:w'.heap=w.heap) (ho:w'.os=w.os) (ht:w'.tape=w.tape) (hp:w'.output=w.output):MR w0 ρ M w':=by
 have ec:∀ a,w'.cell? a=w.cell? a:=fun a=>by simp only [World.cell?,hh]
 have ef:∀ a,w'.frozen? a=w.frozen? a:=fun a=>by simp only [World.frozen?,hh]
 refine ⟨⟨ho.trans h.below.os,ht.trans h.below.tape,hp.trans h.below.output,by rw [hh];exact h.below.size,fun i hi=>by rw [hh];exact h.below.block i hi⟩,h.fresh,?_,?_,?_,?_,h.ap,h.apo,by rw [hh];exact h.lim⟩
 ·simp only [ec,ef];exact h.cel
 ·simp only [ec];exact h.rom
 ·rw [hh];exact h.mp
 ·rw [hh];exact h.it
theorem MR.drew (h:MR w0 ρ M w):MR w0 ρ M w.drew:=h.same rfl rfl rfl rfl
def Mem.ld (M:Mem) (b o n:Nat):Option (List Value) :=
 match M.bs.get b with
 | some (.cells m t)=>match Nat.ble (o+n) m with
  | true=>rd t o n
  | false=>none
 | some (.ro m t)=>match Nat.ble (o+n) m with
  | true=>rd t o n
  | false=>none
 | _=>none
theorem MR.ld (h:MR w0 ρ M w) {b o n B O N:Nat} {l:List Value} (hl:M.ld b o n=some l) (hb:ρ b=some (B,O,N)) :
  ∃ l',LR (SR ρ) l l'∧l'.length=n∧∀ j v,l'[j]?=some v→w.cell? ⟨B,O+o+j,none⟩=some v:=by
 unfold Mem.ld at hl
 split at hl
 ·rename_i m t hm
  split at hl
  ·rename_i hle
   have hle:=Nat.le_of_ble_eq_true hle;obtain ⟨h1,h2⟩:=rd_spec _ _ _ _ hl;obtain ⟨c1,c2,c3⟩:=h.cel _ _ _ _ _ _ hm hb;have key:∀ j,j<n→∃ v',w.cell? ⟨B,O+o+j,none⟩=some v':=fun j hj=>by
    obtain ⟨v',a,_,_⟩:=c3 (o+j) (by omega);exact ⟨v',by rw [Nat.add_assoc];exact a⟩
   refine ⟨(List.range n).map fun j=>(w.cell? ⟨B,O+o+j,none⟩).getD undef,LR.of_get (by simp [h1]) ?_,by simp,?_⟩
   ·intro i a b' e1 e2;have hi:i<n:=by rw [← h1];exact (List.getElem?_eq_some_iff.1 e1).1
    simp only [List.getElem?_map,List.getElem?_range hi,Option.map_some,Option.some.injEq] at e2;obtain ⟨v',a1,_,a3⟩:=c3 (o+i) (by omega);rw [Nat.add_assoc,a1,Option.getD_some] at e2;rw [← e2];exact a3 a (by omega) (h2 i a e1)
   ·intro j v e;have hj:j<n:=by have:=(List.getElem?_eq_some_iff.1 e).1;simpa using this
    simp only [List.getElem?_map,List.getElem?_range hj,Option.map_some,Option.some.injEq] at e;obtain ⟨v',a1⟩:=key j hj;rw [a1] at e;rw [a1];simpa using e
  ·cases hl
 ·rename_i m t hm
  split at hl
  ·rename_i hle
   have hle:=Nat.le_of_ble_eq_true hle;obtain ⟨h1,h2⟩:=rd_spec _ _ _ _ hl;obtain ⟨c1,c3⟩:=h.rom _ _ _ _ _ _ hm hb;refine ⟨l,LR.refl fun a ha=>?_,h1,fun j v e=>?_⟩
   ·obtain ⟨i,hi,e⟩:=List.getElem_of_mem ha;exact SR.refl1 (c3 (o+i) a (by omega) (h2 i a (by rw [List.getElem?_eq_getElem hi,e]))).1
   ·have hj:j<n:=by rw [← h1];exact (List.getElem?_eq_some_iff.1 e).1
    have:=(c3 (o+j) v (by omega) (h2 j v e)).2
    rwa [← Nat.add_assoc] at this
  ·cases hl
 ·cases hl
theorem MR.hole (h:MR w0 ρ M w) {b:Nat} (hb:ρ b=none) (x:Blk):MR w0 ρ (M.put b x) w:=by
 have key:∀ {j y},(∃ z,ρ j=some z)→(M.put b x).bs.get j=some y→M.bs.get j=some y:=fun {j y} hj e=>by
  rcases Mem.get_put e with ⟨e1,_⟩ | ⟨_,e2⟩
  ·rw [e1,hb] at hj;obtain ⟨_,hz⟩:=hj;cases hz
  ·exact e2
 exact ⟨h.below,h.fresh,fun b n t B O N g e=>h.cel b n t B O N (key ⟨_,e⟩ g) e,fun b n t B O N g e=>h.rom b n t B O N (key ⟨_,e⟩ g) e,
  fun b es c B O N g e=>h.mp b es c B O N (key ⟨_,e⟩ g) e,fun b m s k p B O N g e=>h.it b m s k p B O N (key ⟨_,e⟩ g) e,
  fun b1 n1 t1 b2 n2 t2 B O1 N1 O2 N2 j1 j2 g1 g2 e1 e2=>h.ap b1 n1 t1 b2 n2 t2 B O1 N1 O2 N2 j1 j2 (key ⟨_,e1⟩ g1) (key ⟨_,e2⟩ g2) e1 e2,
  fun b1 x1 b2 x2 B O1 N1 O2 N2 g1 g2 k1 k2 e1 e2=>h.apo b1 x1 b2 x2 B O1 N1 O2 N2 (key ⟨_,e1⟩ g1) (key ⟨_,e2⟩ g2) k1 k2 e1 e2,h.lim⟩
theorem MR.dead (h:MR w0 ρ M w) (b:Nat):MR w0 ρ (M.put b .dead) w:=by
 have key:∀ {j y},y≠.dead→(M.put b .dead).bs.get j=some y→M.bs.get j=some y:=fun {j y} hj e=>by
  rcases Mem.get_put e with ⟨_,e1⟩ | ⟨_,e2⟩
  ·exact absurd e1 hj
  ·exact e2
 exact ⟨h.below,h.fresh,fun b n t B O N g e=>h.cel b n t B O N (key (by simp) g) e,fun b n t B O N g e=>h.rom b n t B O N (key (by simp) g) e,
  fun b es c B O N g e=>h.mp b es c B O N (key (by simp) g) e,fun b m s k p B O N g e=>h.it b m s k p B O N (key (by simp) g) e,
  fun b1 n1 t1 b2 n2 t2 B O1 N1 O2 N2 j1 j2 g1 g2 e1 e2=>h.ap b1 n1 t1 b2 n2 t2 B O1 N1 O2 N2 j1 j2 (key (by simp) g1) (key (by simp) g2) e1 e2,
  fun b1 x1 b2 x2 B O1 N1 O2 N2 g1 g2 k1 k2 e1 e2=>h.apo b1 x1 b2 x2 B O1 N1 O2 N2 (key (by rcases k1 with ⟨_,_,rfl⟩ | ⟨_,_,_,_,rfl⟩<;>simp) g1) (key (by rcases k2 with ⟨_,_,rfl⟩ | ⟨_,_,_,_,rfl⟩<;>simp) g2) k1 k2 e1 e2,h.lim⟩
theorem MR.raise (h:MR w0 ρ M w) {k:Nat} (hk:M.nx≤k):MR w0 ρ ⟨M.bs,k⟩ w :=
 ⟨h.below,fun b hb=>h.fresh b (Nat.le_trans hk hb),h.cel,h.rom,h.mp,h.it,h.ap,h.apo,h.lim⟩
structure Turn (w0 w w':World) (B O N:Nat):Prop where
 below:Below w0.heap.size w0 w'
 size:w'.heap.size=w.heap.size
 cell:∀ a:Addr,a.spot=none→(a.block=B→a.off<O∨O+N≤a.off)→w'.cell? a=w.cell? a
 fro:∀ a,w'.frozen? a=w.frozen? a
 obj:∀ (k:Nat) (x:Obj),(∀ c e f,x≠.cells c e f)→w.heap[k]?=some x→w'.heap[k]?=some x
theorem setCell_obj (w:World) (a:Addr) (v:Value) (k:Nat) (x:Obj) (hx:∀ c e f,x≠.cells c e f) (h:w.heap[k]?=some x):(w.setCell a v).heap[k]?=some x:=by
 simp only [World.setCell,Array.getElem?_modify]
 split
 ·rw [h]
  cases x<;>first | rfl | exact absurd rfl (hx _ _ _)
 ·exact h
theorem Turn.sets {w0:World} {B:Nat}:∀ (vs:List Value) (w:World) (o O N:Nat),Below w0.heap.size w0 w→w0.heap.size≤B→O≤o→o+vs.length≤O+N→Turn w0 w (w.setCells B o vs) B O N
 | [],w,o,O,N,hb,_,_,_=>⟨hb,rfl,fun _ _ _=>rfl,fun _=>rfl,fun _ _ _ h=>h⟩
 | v::l,w,o,O,N,hb,hB,h1,h2=>by
  simp only [List.length_cons] at h2;have t:=Turn.sets (w0:=w0) l (w.setCell ⟨B,o,none⟩ v) (o+1) O N (hb.setCell hB v) hB (by omega) (by omega);refine ⟨t.below,t.size.trans (by simp),fun a hs ha=>(t.cell a hs ha).trans (World.cell?_setCell_other _ _ _ _ fun e=>?_),fun a=>(t.fro a).trans (World.frozen?_setCell _ _ _ _),fun k x hx h=>t.obj k x hx (setCell_obj _ _ _ _ _ hx h)⟩;have:=ha (by rw [← e]);rw [← e] at this;simp only at this;omega
theorem MR.turn (h:MR w0 ρ M w) {b n n' B O N:Nat} {t t':T Value} (hm:M.bs.get b=some (.cells n t)) (hb:ρ b=some (B,O,N)) (ht:Turn w0 w w' B O N) (hn:n'≤N)
  (hin:∀ j,j<N→∃ v',w'.cell? ⟨B,O+j,none⟩=some v'∧∀ v,j<n'→t'.get j=some v→SR ρ v v'):MR w0 ρ (M.put b (.cells n' t')) w':=by
 obtain ⟨c1,c2,c3⟩:=h.cel _ _ _ _ _ _ hm hb;have kc:∀ {j n'' t''},(M.put b (.cells n' t')).bs.get j=some (.cells n'' t'')→(j=b∧n''=n'∧t''=t')∨(j≠b∧M.bs.get j=some (.cells n'' t'')):=fun {j n'' t''} e=>by
  rcases Mem.get_put e with ⟨e1,e2⟩ | ⟨e1,e2⟩
  ·injection e2 with e3 e4;exact .inl ⟨e1,e3,e4⟩
  ·exact .inr ⟨e1,e2⟩
 have kl:∀ {j n'' t''},(M.put b (.cells n' t')).bs.get j=some (.cells n'' t'')→∃ m s,M.bs.get j=some (.cells m s):=fun {j n'' t''} e=>by
  rcases kc e with ⟨e1,e2,_⟩ | ⟨_,e2⟩
  ·exact ⟨n,t,by rw [e1];exact hm⟩
  ·exact ⟨_,_,e2⟩
 have ko:∀ {j y},(∀ n t,y≠.cells n t)→(M.put b (.cells n' t')).bs.get j=some y→M.bs.get j=some y:=fun {j y} hj e=>by
  rcases Mem.get_put e with ⟨_,e1⟩ | ⟨_,e2⟩
  ·exact absurd e1 (hj _ _)
  ·exact e2
 refine ⟨ht.below,h.fresh,?_,?_,?_,?_,?_,?_,by rw [ht.size];exact h.lim⟩
 ·intro b' n'' t'' B' O' N' g e
  rcases kc g with ⟨rfl,rfl,rfl⟩ | ⟨hne,g'⟩
  ·rw [hb] at e;simp only [Option.some.injEq,Prod.mk.injEq] at e;obtain ⟨rfl,rfl,rfl⟩:=e;refine ⟨hn,c2,fun i hi=>?_⟩;obtain ⟨x,x1,x2⟩:=hin i hi;obtain ⟨_,_,x3,_⟩:=c3 i hi;exact ⟨x,x1,by rw [ht.fro];exact x3,x2⟩
  ·obtain ⟨d1,d2,d3⟩:=h.cel _ _ _ _ _ _ g' e;refine ⟨d1,d2,fun i hi=>?_⟩;obtain ⟨x,x1,x2,x3⟩:=d3 i hi;refine ⟨x,?_,by rw [ht.fro];exact x2,x3⟩;rw [ht.cell _ rfl ?_]; · exact x1
   intro a;dsimp only at a ⊢;subst a
   by_cases hlt:O'+i<O∨O+N≤O'+i
   ·exact hlt
   ·exact absurd (h.ap _ _ _ _ _ _ _ _ _ _ _ i (O'+i-O) g' hm e hb hi (by omega) (by omega)) hne
 ·intro b' n'' t'' B' O' N' g e;obtain ⟨d1,d2⟩:=h.rom _ _ _ _ _ _ (ko (by simp) g) e;refine ⟨d1,fun i y hi hy=>⟨(d2 i y hi hy).1,?_⟩⟩;rw [ht.cell _ rfl (by dsimp only;omega)];exact (d2 i y hi hy).2
 ·intro b' es c B' O' N' g e;obtain ⟨d1,d2,d3⟩:=h.mp _ _ _ _ _ _ (ko (by simp) g) e;exact ⟨d1,d2,ht.obj _ _ (by simp) d3⟩
 ·intro b' m s k p B' O' N' g e;obtain ⟨d1,d2,mB,mO,mN,d3,d4⟩:=h.it _ _ _ _ _ _ _ _ (ko (by simp) g) e;exact ⟨d1,d2,mB,mO,mN,d3,ht.obj _ _ (by simp) d4⟩
 ·intro b1 n1 t1 b2 n2 t2 B' O1 N1 O2 N2 j1 j2 g1 g2;obtain ⟨_,_,g1'⟩:=kl g1;obtain ⟨_,_,g2'⟩:=kl g2;exact h.ap _ _ _ _ _ _ _ _ _ _ _ _ _ g1' g2'
 ·intro b1 x1 b2 x2 B' O1 N1 O2 N2 g1 g2 k1 k2 e1 e2;exact h.apo b1 x1 b2 x2 B' O1 N1 O2 N2 (ko (by rcases k1 with ⟨_,_,rfl⟩ | ⟨_,_,_,_,rfl⟩<;>simp) g1) (ko (by rcases k2 with ⟨_,_,rfl⟩ | ⟨_,_,_,_,rfl⟩<;>simp) g2) k1 k2 e1 e2
theorem MR.sets (h:MR w0 ρ M w) {b n B O N o:Nat} {t:T Value} {vs vs':List Value} (hm:M.bs.get b=some (.cells n t)) (hb:ρ b=some (B,O,N)) (hv:LR (SR ρ) vs vs') (hle:o+vs.length≤n) :
  MR w0 ρ (M.put b (.cells n (wr t o vs))) (w.setCells B (O+o) vs')∧(∀ j,j<vs'.length→(w.cell? ⟨B,O+o+j,none⟩).isSome=true)∧(∀ j,j<vs'.length→w.frozen? ⟨B,O+o+j,none⟩=false)∧∀ v∈vs',v.oneCell'=true:=by
 obtain ⟨c1,c2,c3⟩:=h.cel _ _ _ _ _ _ hm hb;have hlen:=hv.len;have k1:∀ j,j<vs'.length→(w.cell? ⟨B,O+o+j,none⟩).isSome=true:=fun j hj=>by
  obtain ⟨x,x1,_,_⟩:=c3 (o+j) (by omega);rw [Nat.add_assoc,x1];rfl
 refine ⟨h.turn hm hb (Turn.sets vs' w (O+o) O N h.below c2 (by omega) (by omega)) c1 fun j hj=>?_,k1,fun j hj=>?_,fun v hv'=>?_⟩
 ·obtain ⟨x,x1,x2,x3⟩:=c3 j hj
  by_cases hin:o≤j∧j<o+vs'.length
  ·have hk:j-o<vs'.length:=by omega
   have e:=World.cell?_setCells_in B vs' (O+o) w k1 (j-o) hk;rw [show O+o+(j-o)=O+j by omega] at e;refine ⟨_,e,fun v hv1 hv2=>?_⟩
   rcases get_wr _ _ _ _ _ hv2 with ⟨i,e1,e2⟩ | ⟨e1,_⟩
   ·obtain ⟨u,u1,u2⟩:=hv.get e2;rw [show i=j-o by omega,List.getElem?_eq_getElem hk] at u1;simp only [Option.some.injEq] at u1;rw [u1];exact u2
   ·omega
  ·refine ⟨x,by rw [World.cell?_setCells_out B vs' (O+o) w _ (by intro _ _;dsimp only;omega)];exact x1,fun v hv1 hv2=>?_⟩
   rcases get_wr _ _ _ _ _ hv2 with ⟨i,e1,e2⟩ | ⟨_,e2⟩
   ·have:=(List.getElem?_eq_some_iff.1 e2).1;omega
   ·exact x3 v hv1 e2
 ·obtain ⟨x,_,x2,_⟩:=c3 (o+j) (by omega);rw [Nat.add_assoc];exact x2
 ·obtain ⟨i,hi,e⟩:=List.getElem_of_mem hv';obtain ⟨u,u1,u2⟩:=hv.get (List.getElem?_eq_getElem (show i<vs.length by omega));rw [List.getElem?_eq_getElem hi,e] at u1;simp only [Option.some.injEq] at u1;rw [u1];exact u2.one
def upd (ρ:Rho) (b:Nat) (x:Nat×Nat×Nat):Rho:=fun j=>if j=b then some x else ρ j
theorem upd_sub {ρ:Rho} {b:Nat} {x:Nat×Nat×Nat} (h:ρ b=none):Sub ρ (upd ρ b x):=fun j y e=>by
 unfold upd
 split
 ·rename_i hj;rw [hj,h] at e;cases e
 ·exact e
theorem upd_inv {ρ:Rho} {b j:Nat} {x y:Nat×Nat×Nat} (h:upd ρ b x j=some y):(j=b∧y=x)∨(j≠b∧ρ j=some y):=by
 unfold upd at h
 split at h
 ·rename_i hj;exact .inl ⟨hj,(Option.some.inj h).symm⟩
 ·rename_i hj;exact .inr ⟨hj,h⟩
theorem MR.fill (h:MR w0 ρ M w) {b:Nat} (hb:ρ b=none) (hlt:b<M.nx) (c:Array Value) (ty:TypeId)
  (hc:∀ y,M.bs.get b=some y→∃ n t,y=.cells n t∧n≤c.size∧∀ j v,j<n→t.get j=some v→∃ v',c[j]?=some v'∧SR ρ v v') :
  MR w0 (upd ρ b (w.heap.size,0,c.size)) M (w.alloc (.cells c ty)):=by
 have hs:=upd_sub (x:=(w.heap.size,0,c.size)) hb;have hsz:w0.heap.size≤w.heap.size:=h.below.size;have old:∀ {b' B O N},ρ b'=some (B,O,N)→B<w.heap.size:=fun e=>h.lim _ _ _ _ e;refine ⟨h.below.alloc hsz _,fun j hj=>?_,?_,?_,?_,?_,?_,?_,?_⟩
 ·unfold upd;rw [if_neg (by omega)];exact h.fresh j hj
 ·intro b' n t B O N g e
  rcases upd_inv e with ⟨rfl,e2⟩ | ⟨hne,e2⟩
  ·simp only [Prod.mk.injEq] at e2;obtain ⟨rfl,rfl,rfl⟩:=e2;obtain ⟨n',t',e3,e4,e5⟩:=hc _ g
   injection e3 with e6 e7
   subst e6 e7;refine ⟨e4,hsz,fun j hj=>⟨c[j],by rw [World.cell?_alloc_new];simp [hj],World.frozen?_alloc_new w c ty _,fun v hv hg=>?_⟩⟩;obtain ⟨v',a1,a2⟩:=e5 j v hv hg;rw [Array.getElem?_eq_getElem hj] at a1;simp only [Option.some.injEq] at a1;rw [a1];exact a2.mono hs
  ·obtain ⟨d1,d2,d3⟩:=h.cel _ _ _ _ _ _ g e2;have hB:=old e2;refine ⟨d1,d2,fun j hj=>?_⟩;obtain ⟨x,x1,x2,x3⟩:=d3 j hj;exact ⟨x,by rw [World.cell?_alloc_old _ _ _ (by dsimp only;omega)];exact x1,by rw [World.frozen?_alloc_old _ _ _ (by dsimp only;omega)];exact x2,fun v a1 a2=>(x3 v a1 a2).mono hs⟩
 ·intro b' n t B O N g e
  rcases upd_inv e with ⟨rfl,_⟩ | ⟨hne,e2⟩
  ·obtain ⟨_,_,e3,_⟩:=hc _ g;cases e3
  ·obtain ⟨d1,d2⟩:=h.rom _ _ _ _ _ _ g e2;refine ⟨d1,fun i y hi hy=>⟨(d2 i y hi hy).1,?_⟩⟩;rw [World.cell?_alloc_old _ _ _ (by dsimp only;omega)];exact (d2 i y hi hy).2
 ·intro b' es cc B O N g e
  rcases upd_inv e with ⟨rfl,_⟩ | ⟨hne,e2⟩
  ·obtain ⟨_,_,e3,_⟩:=hc _ g;cases e3
  ·obtain ⟨d1,d2,d3⟩:=h.mp _ _ _ _ _ _ g e2;exact ⟨d1,d2,by rw [Below.heap_alloc _ _ _ (old e2)];exact d3⟩
 ·intro b' m s k p B O N g e
  rcases upd_inv e with ⟨rfl,_⟩ | ⟨hne,e2⟩
  ·obtain ⟨_,_,e3,_⟩:=hc _ g;cases e3
  ·obtain ⟨d1,d2,mB,mO,mN,d3,d4⟩:=h.it _ _ _ _ _ _ _ _ g e2;exact ⟨d1,d2,mB,mO,mN,hs _ _ d3,by rw [Below.heap_alloc _ _ _ (old e2)];exact d4⟩
 ·intro b1 n1 t1 b2 n2 t2 B O1 N1 O2 N2 j1 j2 g1 g2 e1 e2 h1 h2 he
  rcases upd_inv e1 with ⟨rfl,a1⟩ | ⟨_,a1⟩<;>rcases upd_inv e2 with ⟨rfl,a2⟩ | ⟨_,a2⟩
  ·rfl
  ·have:=old a2;simp only [Prod.mk.injEq] at a1;omega
  ·have:=old a1;simp only [Prod.mk.injEq] at a2;omega
  ·exact h.ap _ _ _ _ _ _ _ _ _ _ _ _ _ g1 g2 a1 a2 h1 h2 he
 ·intro b1 x1 b2 x2 B O1 N1 O2 N2 g1 g2 k1 k2 e1 e2
  rcases upd_inv e1 with ⟨rfl,a1⟩ | ⟨_,a1⟩<;>rcases upd_inv e2 with ⟨rfl,a2⟩ | ⟨_,a2⟩
  ·rfl
  ·have:=old a2;simp only [Prod.mk.injEq] at a1;omega
  ·have:=old a1;simp only [Prod.mk.injEq] at a2;omega
  ·exact h.apo _ _ _ _ _ _ _ _ _ g1 g2 k1 k2 a1 a2
 ·intro b' B O N e
  rcases upd_inv e with ⟨_,a⟩ | ⟨_,a⟩
  ·simp only [Prod.mk.injEq] at a;simp;omega
  ·have:=old a;simp;omega
theorem MR.fillObj (h:MR w0 ρ M w) {b:Nat} (hb:ρ b=none) (hlt:b<M.nx) (x:Obj)
  (hc:∀ y,M.bs.get b=some y→(∃ es c,y=.mp es c∧x=.map es c)∨∃ m s k p mB mO mN,y=.it m s k p∧ρ m=some (mB,mO,mN)∧x=.mapIter (some mB) s k p) :
  MR w0 (upd ρ b (w.heap.size,0,0)) M (w.alloc x):=by
 have hs:=upd_sub (x:=(w.heap.size,0,0)) hb;have hsz:w0.heap.size≤w.heap.size:=h.below.size;have old:∀ {b' B O N},ρ b'=some (B,O,N)→B<w.heap.size:=fun e=>h.lim _ _ _ _ e;have new:(w.alloc x).heap[w.heap.size]?=some x:=by show (w.heap.push x)[w.heap.size]?=some x;simp
 refine ⟨h.below.alloc hsz _,fun j hj=>?_,?_,?_,?_,?_,?_,?_,?_⟩
 ·unfold upd;rw [if_neg (by omega)];exact h.fresh j hj
 ·intro b' n t B O N g e
  rcases upd_inv e with ⟨rfl,e2⟩ | ⟨hne,e2⟩
  ·rcases hc _ g with ⟨_,_,e3,_⟩ | ⟨_,_,_,_,_,_,_,e3,_⟩<;>cases e3
  ·obtain ⟨d1,d2,d3⟩:=h.cel _ _ _ _ _ _ g e2;have hB:=old e2;refine ⟨d1,d2,fun j hj=>?_⟩;obtain ⟨y,x1,x2,x3⟩:=d3 j hj;exact ⟨y,by rw [World.cell?_alloc_old _ _ _ (by dsimp only;omega)];exact x1,by rw [World.frozen?_alloc_old _ _ _ (by dsimp only;omega)];exact x2,fun v a1 a2=>(x3 v a1 a2).mono hs⟩
 ·intro b' n t B O N g e
  rcases upd_inv e with ⟨rfl,_⟩ | ⟨hne,e2⟩
  ·rcases hc _ g with ⟨_,_,e3,_⟩ | ⟨_,_,_,_,_,_,_,e3,_⟩<;>cases e3
  ·obtain ⟨d1,d2⟩:=h.rom _ _ _ _ _ _ g e2;refine ⟨d1,fun i y hi hy=>⟨(d2 i y hi hy).1,?_⟩⟩;rw [World.cell?_alloc_old _ _ _ (by dsimp only;omega)];exact (d2 i y hi hy).2
 ·intro b' es cc B O N g e
  rcases upd_inv e with ⟨rfl,e2⟩ | ⟨hne,e2⟩
  ·simp only [Prod.mk.injEq] at e2;obtain ⟨rfl,rfl,rfl⟩:=e2
   rcases hc _ g with ⟨_,_,e3,e4⟩ | ⟨_,_,_,_,_,_,_,e3,_⟩
   ·injection e3 with e5 e6;subst e5 e6;exact ⟨hsz,rfl,by rw [new,e4]⟩
   ·cases e3
  ·obtain ⟨d1,d2,d3⟩:=h.mp _ _ _ _ _ _ g e2;exact ⟨d1,d2,by rw [Below.heap_alloc _ _ _ (old e2)];exact d3⟩
 ·intro b' m s k p B O N g e
  rcases upd_inv e with ⟨rfl,e2⟩ | ⟨hne,e2⟩
  ·simp only [Prod.mk.injEq] at e2;obtain ⟨rfl,rfl,rfl⟩:=e2
   rcases hc _ g with ⟨_,_,e3,e4⟩ | ⟨m',s',k',p',mB,mO,mN,e3,e4,e5⟩
   ·cases e3
   ·injection e3 with e6 e7 e8 e9;subst e6 e7 e8 e9;exact ⟨hsz,rfl,mB,mO,mN,hs _ _ e4,by rw [new,e5]⟩
  ·obtain ⟨d1,d2,mB,mO,mN,d3,d4⟩:=h.it _ _ _ _ _ _ _ _ g e2;exact ⟨d1,d2,mB,mO,mN,hs _ _ d3,by rw [Below.heap_alloc _ _ _ (old e2)];exact d4⟩
 ·intro b1 n1 t1 b2 n2 t2 B O1 N1 O2 N2 j1 j2 g1 g2 e1 e2 h1 h2 he
  rcases upd_inv e1 with ⟨rfl,a1⟩ | ⟨_,a1⟩<;>rcases upd_inv e2 with ⟨rfl,a2⟩ | ⟨_,a2⟩
  ·rfl
  ·have:=old a2;simp only [Prod.mk.injEq] at a1;omega
  ·have:=old a1;simp only [Prod.mk.injEq] at a2;omega
  ·exact h.ap _ _ _ _ _ _ _ _ _ _ _ _ _ g1 g2 a1 a2 h1 h2 he
 ·intro b1 x1 b2 x2 B O1 N1 O2 N2 g1 g2 k1 k2 e1 e2
  rcases upd_inv e1 with ⟨rfl,a1⟩ | ⟨_,a1⟩<;>rcases upd_inv e2 with ⟨rfl,a2⟩ | ⟨_,a2⟩
  ·rfl
  ·have:=old a2;simp only [Prod.mk.injEq] at a1;omega
  ·have:=old a1;simp only [Prod.mk.injEq] at a2;omega
  ·exact h.apo _ _ _ _ _ _ _ _ _ g1 g2 k1 k2 a1 a2
 ·intro b' B O N e
  rcases upd_inv e with ⟨_,a⟩ | ⟨_,a⟩
  ·simp only [Prod.mk.injEq] at a;simp;omega
  ·have:=old a;simp;omega
theorem MR.setObj (h:MR w0 ρ M w) {b B O N:Nat} {x0 x:Blk} {o:Obj} (hm:M.bs.get b=some x0) (hb:ρ b=some (B,O,N)) (k0:(∃ es c,x0=.mp es c)∨(∃ m s k p,x0=.it m s k p))
  (hc:(∃ es c,x=.mp es c∧o=.map es c)∨∃ m s k p mB mO mN,x=.it m s k p∧ρ m=some (mB,mO,mN)∧o=.mapIter (some mB) s k p) :
  MR w0 ρ (M.put b x) { w with heap:=w.heap.setIfInBounds B o }:=by
 have hB:w0.heap.size≤B∧O=0∧∃ y,w.heap[B]?=some y∧∀ c e f,y≠.cells c e f:=by
  rcases k0 with ⟨es,c,rfl⟩ | ⟨m,s,k,p,rfl⟩
  ·obtain ⟨a1,a2,a3⟩:=h.mp _ _ _ _ _ _ hm hb;exact ⟨a1,a2,_,a3,by simp⟩
  ·obtain ⟨a1,a2,mB,_,_,_,a3⟩:=h.it _ _ _ _ _ _ _ _ hm hb;exact ⟨a1,a2,_,a3,by simp⟩
 obtain ⟨hB1,hB2,y,hy,hyc⟩:=hB;have hlt:B<w.heap.size:=h.lim _ _ _ _ hb;have oth:∀ k,k≠B→(w.heap.setIfInBounds B o)[k]?=w.heap[k]?:=fun k hk=>Array.getElem?_setIfInBounds_ne (Ne.symm hk);have oc:∀ c e f,o≠.cells c e f:=by rcases hc with ⟨_,_,_,rfl⟩ | ⟨_,_,_,_,_,_,_,_,_,rfl⟩<;>simp
 have ec:∀ a,World.cell? { w with heap:=w.heap.setIfInBounds B o } a=w.cell? a:=fun a=>by
  simp only [World.cell?]
  by_cases e:a.block=B
  ·rw [e,hy,Array.getElem?_setIfInBounds_self_of_lt hlt]
   cases o<;>cases y<;>first | rfl | exact absurd rfl (oc _ _ _) | exact absurd rfl (hyc _ _ _)
  ·rw [oth _ e]
 have ef:∀ a,World.frozen? { w with heap:=w.heap.setIfInBounds B o } a=w.frozen? a:=fun a=>by
  simp only [World.frozen?]
  by_cases e:a.block=B
  ·rw [e,hy,Array.getElem?_setIfInBounds_self_of_lt hlt]
   cases o<;>cases y<;>first | rfl | exact absurd rfl (oc _ _ _) | exact absurd rfl (hyc _ _ _)
  ·rw [oth _ e]
 have ox:(∃ es c,x=.mp es c)∨(∃ m s k p,x=.it m s k p):=by rcases hc with ⟨_,_,rfl,_⟩ | ⟨_,_,_,_,_,_,_,rfl,_⟩<;>simp
 have nob:∀ b' x' B' O' N',M.bs.get b'=some x'→(∃ es c,x'=.mp es c)∨(∃ m s k p,x'=.it m s k p)→ρ b'=some (B',O',N')→b'≠b→B'≠B:=fun b' x' B' O' N' g k e hne hBB=>by
  subst hBB;exact hne (h.apo _ _ _ _ _ _ _ _ _ g hm k k0 e hb)
 refine ⟨⟨h.below.os,h.below.tape,h.below.output,by simpa using h.below.size,fun i hi=>by rw [oth i (by omega)];exact h.below.block i hi⟩,h.fresh,?_,?_,?_,?_,?_,?_,by simpa using h.lim⟩
 ·intro b' n t B' O' N' g e;simp only [ec,ef]
  rcases Mem.get_put g with ⟨_,e2⟩ | ⟨_,e2⟩
  ·rw [← e2] at ox;rcases ox with ⟨_,_,e3⟩ | ⟨_,_,_,_,e3⟩<;>cases e3
  ·exact h.cel _ _ _ _ _ _ e2 e
 ·intro b' n t B' O' N' g e;simp only [ec]
  rcases Mem.get_put g with ⟨_,e2⟩ | ⟨_,e2⟩
  ·rw [← e2] at ox;rcases ox with ⟨_,_,e3⟩ | ⟨_,_,_,_,e3⟩<;>cases e3
  ·exact h.rom _ _ _ _ _ _ e2 e
 ·intro b' es c B' O' N' g e
  rcases Mem.get_put g with ⟨rfl,e2⟩ | ⟨hne,e2⟩
  ·rw [hb] at e;simp only [Option.some.injEq,Prod.mk.injEq] at e;obtain ⟨rfl,rfl,rfl⟩:=e
   rcases hc with ⟨es',c',e3,e4⟩ | ⟨_,_,_,_,_,_,_,e3,_⟩
   ·rw [e3] at e2;injection e2 with e5 e6;subst e5 e6;exact ⟨hB1,hB2,by rw [Array.getElem?_setIfInBounds_self_of_lt hlt,e4]⟩
   ·rw [e3] at e2;cases e2
  ·obtain ⟨d1,d2,d3⟩:=h.mp _ _ _ _ _ _ e2 e;exact ⟨d1,d2,by rw [oth _ (nob _ _ _ _ _ e2 (.inl ⟨_,_,rfl⟩) e hne)];exact d3⟩
 ·intro b' m s k p B' O' N' g e
  rcases Mem.get_put g with ⟨rfl,e2⟩ | ⟨hne,e2⟩
  ·rw [hb] at e;simp only [Option.some.injEq,Prod.mk.injEq] at e;obtain ⟨rfl,rfl,rfl⟩:=e
   rcases hc with ⟨es',c',e3,e4⟩ | ⟨m',s',k',p',mB,mO,mN,e3,e4,e5⟩
   ·rw [e3] at e2;cases e2
   ·rw [e3] at e2;injection e2 with e6 e7 e8 e9;subst e6 e7 e8 e9;exact ⟨hB1,hB2,mB,mO,mN,e4,by rw [Array.getElem?_setIfInBounds_self_of_lt hlt,e5]⟩
  ·obtain ⟨d1,d2,mB,mO,mN,d3,d4⟩:=h.it _ _ _ _ _ _ _ _ e2 e;exact ⟨d1,d2,mB,mO,mN,d3,by rw [oth _ (nob _ _ _ _ _ e2 (.inr ⟨_,_,_,_,rfl⟩) e hne)];exact d4⟩
 ·intro b1 n1 t1 b2 n2 t2 B' O1 N1 O2 N2 j1 j2 g1 g2;have k:∀ {b' n t},(M.put b x).bs.get b'=some (.cells n t)→M.bs.get b'=some (.cells n t):=fun g=>by
   rcases Mem.get_put g with ⟨_,e2⟩ | ⟨_,e2⟩
   ·rw [← e2] at ox;rcases ox with ⟨_,_,e3⟩ | ⟨_,_,_,_,e3⟩<;>cases e3
   ·exact e2
  exact h.ap _ _ _ _ _ _ _ _ _ _ _ _ _ (k g1) (k g2)
 ·intro b1 x1 b2 x2 B' O1 N1 O2 N2 g1 g2 k1 k2 e1 e2;have k:∀ {b' x'},(M.put b x).bs.get b'=some x'→(∃ es c,x'=.mp es c)∨(∃ m s k p,x'=.it m s k p)→∃ x'',M.bs.get b'=some x''∧((∃ es c,x''=.mp es c)∨(∃ m s k p,x''=.it m s k p)):=fun g k=>by
   rcases Mem.get_put g with ⟨rfl,_⟩ | ⟨_,e2⟩
   ·exact ⟨x0,hm,k0⟩
   ·exact ⟨_,e2,k⟩
  obtain ⟨y1,a1,a2⟩:=k g1 k1;obtain ⟨y2,a3,a4⟩:=k g2 k2;exact h.apo _ _ _ _ _ _ _ _ _ a1 a3 a2 a4 e1 e2
theorem MR.fork (h:MR w0 ρ M w) {b n n' B O N o:Nat} {t t':T Value} (hm:M.bs.get b=some (.cells n t)) (hb:ρ b=some (B,O,N)) (ht:Turn w0 w w' B O N) (ho:o≤N) (hn:n'≤N-o)
  (hin:∀ j,j<N-o→∃ v',w'.cell? ⟨B,O+o+j,none⟩=some v'∧∀ v,j<n'→t'.get j=some v→SR ρ v v') :
  MR w0 (upd ρ M.nx (B,O+o,N-o)) ⟨((M.put b .dead).put M.nx (.cells n' t')).bs,M.nx+1⟩ w':=by
 have hz:ρ M.nx=none:=h.fresh _ (Nat.le_refl _);have hs:=upd_sub (x:=(B,O+o,N-o)) hz;obtain ⟨c1,c2,c3⟩:=h.cel _ _ _ _ _ _ hm hb;have kp:∀ {j y},((M.put b .dead).put M.nx (.cells n' t')).bs.get j=some y→(j=M.nx∧y=.cells n' t')∨(j≠M.nx∧((j=b∧y=.dead)∨(j≠b∧M.bs.get j=some y))):=fun {j y} e=>by
  rcases Mem.get_put e with ⟨e1,e2⟩ | ⟨e1,e2⟩
  ·exact .inl ⟨e1,e2⟩
  ·exact .inr ⟨e1,Mem.get_put e2⟩
 refine ⟨ht.below,fun j hj=>?_,?_,?_,?_,?_,?_,?_,?_⟩
 ·dsimp only at hj;unfold upd;rw [if_neg (by omega)];exact h.fresh j (by omega)
 ·intro b' n'' t'' B' O' N' g e
  rcases kp g with ⟨rfl,e2⟩ | ⟨hne,⟨_,e2⟩ | ⟨hne2,e2⟩⟩
  ·injection e2 with e3 e4;subst e3 e4
   unfold upd at e;rw [if_pos rfl] at e;simp only [Option.some.injEq,Prod.mk.injEq] at e;obtain ⟨rfl,rfl,rfl⟩:=e;refine ⟨hn,c2,fun j hj=>?_⟩;obtain ⟨v',a1,a2⟩:=hin j hj;obtain ⟨_,_,a3,_⟩:=c3 (o+j) (by omega);exact ⟨v',a1,by rw [ht.fro,Nat.add_assoc];exact a3,fun v x1 x2=>(a2 v x1 x2).mono hs⟩
  ·cases e2
  ·rcases upd_inv e with ⟨e3,_⟩ | ⟨_,e3⟩
   ·exact absurd e3 hne
   ·obtain ⟨d1,d2,d3⟩:=h.cel _ _ _ _ _ _ e2 e3;refine ⟨d1,d2,fun i hi=>?_⟩;obtain ⟨x,x1,x2,x3⟩:=d3 i hi;refine ⟨x,?_,by rw [ht.fro];exact x2,fun v a1 a2=>(x3 v a1 a2).mono hs⟩;rw [ht.cell _ rfl ?_]; · exact x1
    intro a;dsimp only at a ⊢;subst a
    by_cases hlt:O'+i<O∨O+N≤O'+i
    ·exact hlt
    ·exact absurd (h.ap _ _ _ _ _ _ _ _ _ _ _ i (O'+i-O) e2 hm e3 hb hi (by omega) (by omega)) hne2
 ·intro b' n'' t'' B' O' N' g e
  rcases kp g with ⟨_,e2⟩ | ⟨hne,⟨_,e2⟩ | ⟨_,e2⟩⟩
  ·cases e2
  ·cases e2
  ·rcases upd_inv e with ⟨e3,_⟩ | ⟨_,e3⟩
   ·exact absurd e3 hne
   ·obtain ⟨d1,d2⟩:=h.rom _ _ _ _ _ _ e2 e3;refine ⟨d1,fun i y hi hy=>⟨(d2 i y hi hy).1,?_⟩⟩;rw [ht.cell _ rfl (by dsimp only;omega)];exact (d2 i y hi hy).2
 ·intro b' es c B' O' N' g e
  rcases kp g with ⟨_,e2⟩ | ⟨hne,⟨_,e2⟩ | ⟨_,e2⟩⟩
  ·cases e2
  ·cases e2
  ·rcases upd_inv e with ⟨e3,_⟩ | ⟨_,e3⟩
   ·exact absurd e3 hne
   ·obtain ⟨d1,d2,d3⟩:=h.mp _ _ _ _ _ _ e2 e3;exact ⟨d1,d2,ht.obj _ _ (by simp) d3⟩
 ·intro b' m s k p B' O' N' g e
  rcases kp g with ⟨_,e2⟩ | ⟨hne,⟨_,e2⟩ | ⟨_,e2⟩⟩
  ·cases e2
  ·cases e2
  ·rcases upd_inv e with ⟨e3,_⟩ | ⟨_,e3⟩
   ·exact absurd e3 hne
   ·obtain ⟨d1,d2,mB,mO,mN,d3,d4⟩:=h.it _ _ _ _ _ _ _ _ e2 e3;exact ⟨d1,d2,mB,mO,mN,hs _ _ d3,ht.obj _ _ (by simp) d4⟩
 ·intro b1 n1 t1 b2 n2 t2 B' O1 N1 O2 N2 j1 j2 g1 g2 e1 e2 h1 h2 he;have key:∀ {b' n t B' O' N' j'},((M.put b .dead).put M.nx (.cells n' t')).bs.get b'=some (.cells n t)→upd ρ M.nx (B,O+o,N-o) b'=some (B',O',N')→j'<N' →
    (b'=M.nx∧B'=B∧∃ i,i<N∧O'+j'=O+i)∨(b'≠b∧∃ n t,M.bs.get b'=some (.cells n t)∧ρ b'=some (B',O',N')):=fun {b' n t B' O' N' j'} g e hj=>by
   rcases kp g with ⟨rfl,e2⟩ | ⟨hne,⟨_,e2⟩ | ⟨hne2,e2⟩⟩
   ·unfold upd at e;rw [if_pos rfl] at e;simp only [Option.some.injEq,Prod.mk.injEq] at e;obtain ⟨rfl,rfl,rfl⟩:=e;exact .inl ⟨rfl,rfl,o+j',by omega,by omega⟩
   ·cases e2
   ·rcases upd_inv e with ⟨e3,_⟩ | ⟨_,e3⟩
    ·exact absurd e3 hne
    ·exact .inr ⟨hne2,_,_,e2,e3⟩
  rcases key g1 e1 h1 with ⟨r1,r2,i,r3,r4⟩ | ⟨r1,_,_,r2,r3⟩<;>rcases key g2 e2 h2 with ⟨s1,s2,k,s3,s4⟩ | ⟨s1,_,_,s2,s3⟩
  ·rw [r1,s1]
  ·subst r2;exact absurd (h.ap _ _ _ _ _ _ _ _ _ _ _ _ _ hm s2 hb s3 r3 h2 (by omega)) (Ne.symm s1)
  ·subst s2;exact absurd (h.ap _ _ _ _ _ _ _ _ _ _ _ _ _ r2 hm r3 hb h1 s3 (by omega)) r1
  ·exact h.ap _ _ _ _ _ _ _ _ _ _ _ _ _ r2 s2 r3 s3 h1 h2 he
 ·intro b1 x1 b2 x2 B' O1 N1 O2 N2 g1 g2 k1 k2 e1 e2;have key:∀ {b' x B' O' N'},((M.put b .dead).put M.nx (.cells n' t')).bs.get b'=some x→((∃ es c,x=.mp es c)∨∃ m s k p,x=.it m s k p)→upd ρ M.nx (B,O+o,N-o) b'=some (B',O',N')→M.bs.get b'=some x∧ρ b'=some (B',O',N'):=fun {b' x B' O' N'} g k e=>by
   rcases kp g with ⟨_,e2⟩ | ⟨hne,⟨_,e2⟩ | ⟨_,e2⟩⟩
   ·rw [e2] at k;rcases k with ⟨_,_,e3⟩ | ⟨_,_,_,_,e3⟩<;>cases e3
   ·rw [e2] at k;rcases k with ⟨_,_,e3⟩ | ⟨_,_,_,_,e3⟩<;>cases e3
   ·rcases upd_inv e with ⟨e3,_⟩ | ⟨_,e3⟩
    ·exact absurd e3 hne
    ·exact ⟨e2,e3⟩
  obtain ⟨a1,a2⟩:=key g1 k1 e1;obtain ⟨a3,a4⟩:=key g2 k2 e2;exact h.apo _ _ _ _ _ _ _ _ _ a1 a3 k1 k2 a2 a4
 ·intro b' B' O' N' e;rw [ht.size]
  rcases upd_inv e with ⟨_,a⟩ | ⟨_,a⟩
  ·simp only [Prod.mk.injEq] at a;rw [a.1];exact h.lim _ _ _ _ hb
  ·exact h.lim _ _ _ _ a
end
end
end Go.Vm
