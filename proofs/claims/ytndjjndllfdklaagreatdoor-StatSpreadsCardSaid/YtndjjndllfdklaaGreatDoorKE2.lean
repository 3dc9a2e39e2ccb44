/-
  Parts of the proof: VmC VmD VmE VmF VmG VmH VmI.
-/
import Derived.Laws.Cover3
import Derived.Laws.IdiomRangeMap
import Derived.Orders
import Derived.Test.YtndjjndllfdklaaGreatDoorKE1
set_option linter.unusedVariables false
set_option linter.unusedSimpArgs false
set_option maxHeartbeats 32000000
set_option maxRecDepth 100000
namespace Go.Vm
open Go.RowKit
noncomputable section
def prun {α:Type} (P:Program):Nat→Sem α→Option α
 | _,.pure a=>some a
 | n+1,.program k=>prun P n (k P)
 | _,_=>none
theorem prun_run {α:Type} {P:Program}:∀ (n:Nat) (s:Sem α) (a:α),prun P n s=some a→∀ w,s.run P w=.ok a w:=by
 intro n
 induction n with
 | zero=>intro s a h w;cases s<;>simp [prun] at h;subst h;rfl
 | succ n ih =>
  intro s a h w
  cases s<;>simp [prun] at h
  ·subst h;rfl
  ·exact ih _ _ h w
def prp (P:Program) (s:Sem Value):Option Value :=
 match prun P 200 s with
 | none=>none
 | some v=>match pl v with
  | true=>some v
  | false=>none
theorem prp_run {P:Program} {s:Sem Value} {v:Value} (h:prp P s=some v):pl v=true∧∀ w,s.run P w=.ok v w:=by
 unfold prp at h
 split at h
 ·cases h
 ·rename_i u hu
  split at h
  ·rename_i hp
   simp only [Option.some.injEq] at h;subst h;exact ⟨hp,prun_run _ _ _ hu⟩
  ·cases h
section
variable {ρ:Rho} {b:Value}
theorem VR.ptr_inv {B o:Nat} (h:VR ρ (.pointer (some ⟨B,o,none⟩)) b):∃ C O N,ρ B=some (C,O,N)∧b=.pointer (some ⟨C,O+o,none⟩):=by
 cases h with
 | one h=>cases h with
  | sc h=>cases h with
   | ptr h=>exact ⟨_,_,_,h,rfl⟩
theorem VR.bool_inv {x:Bool} (h:VR ρ (.bool x) b):b=.bool x:=VR.eq1 rfl h
theorem VR.int_inv {k:IntKind} {n:Int} (h:VR ρ (.int k n) b):b=.int k n:=VR.eq1 rfl h
theorem VR.agg_inv {xs:Array Value} (h:VR ρ (.agg xs) b):∃ ys:Array Value,b=.agg ys∧LR (SR ρ) xs.toList ys.toList:=by
 cases h with
 | one h=>cases h with
  | sc h=>cases h
  | agg h=>exact ⟨_,rfl,h⟩
theorem VR.tup_inv {xs:Array Value} (h:VR ρ (.tuple xs) b):∃ ys:Array Value,b=.tuple ys∧LR (V1 ρ) xs.toList ys.toList:=by
 cases h with
 | one h=>cases h with
  | sc h=>cases h
 | tup h=>exact ⟨_,rfl,h⟩
theorem VR.fn_inv {f:FuncId} {xs:Array Value} (h:VR ρ (.func (.func f) #[] xs) b):∃ ys:Array Value,b=.func (.func f) #[] ys∧LR (SR ρ) xs.toList ys.toList:=by
 cases h with
 | one h=>cases h with
  | sc h=>cases h
  | fn h=>exact ⟨_,rfl,h⟩
theorem VR.sl_inv {B o n c:Nat} (h:VR ρ (.slice (some ⟨B,o,none⟩) n c) b) (hn:0<n):∃ C O N c',ρ B=some (C,O,N)∧b=.slice (some ⟨C,O+o,none⟩) n c':=by
 cases h with
 | one h=>cases h with
  | sc h=>cases h with
   | sl h hc=>exact ⟨_,_,_,_,h,rfl⟩
   | su h _ _ _ _=>exact ⟨_,_,_,_,h,rfl⟩
   | s0=>omega
theorem VR.sl_len {p:Option Addr} {n c:Nat} (h:VR ρ (.slice p n c) b):∃ p' c',b=.slice p' n c'∧p'.isNone=p.isNone:=by
 cases h with
 | one h=>cases h with
  | sc h=>cases h<;>exact ⟨_,_,rfl,rfl⟩
theorem VR.map_inv {B:Nat} (h:VR ρ (.map (some B)) b):∃ C O N,ρ B=some (C,O,N)∧b=.map (some C):=by
 cases h with
 | one h=>cases h with
  | sc h=>cases h with
   | map h=>exact ⟨_,_,_,h,rfl⟩
end
def isAggT (P:Program) (t:TypeId):Option Bool :=
 match P.underlying t with
 | some (.struct _)=>some true
 | some (.array _ _)=>some true
 | some _=>some false
 | none=>none
def szOf (P : Program) (t : TypeId) : Option Nat:=(P.info? t).map (·.size)
theorem run_szOf {P:Program} {t:TypeId} {n:Nat} (h:szOf P t=some n) (w:World):(sizeOf t).run P w=.ok n w:=by
 unfold szOf at h
 cases e:P.info? t with
 | none=>rw [e] at h;cases h
 | some i=>rw [e] at h;simp only [Option.map_some,Option.some.injEq] at h;simp [sizeOf,typeInfo,e,h]
theorem run_isAggT {P:Program} {t:TypeId} {x:Bool} (h:isAggT P t=some x) (w:World):(isAgg t).run P w=.ok x w:=by
 unfold isAggT at h
 split at h
 ·rename_i e;cases h;simp [isAgg,run_underlying e]
 ·rename_i e;cases h;simp [isAgg,run_underlying e]
 ·rename_i d h1 h2 e
  cases h
  simp only [isAgg,Sem.run_bind,run_underlying e,Result.andThen_ok]
  rfl
 ·cases h
def evPart (P:Program) (t:TypeId) (cs:Array Value) (off:Nat):Option Value :=
 match isAggT P t,szOf P t with
 | some true,some n=>some (.agg (cs.extract off (off+n)))
 | some false,_=>cs[off]?
 | _,_=>none
theorem evPart_run {P:Program} {t:TypeId} {xs ys:Array Value} {off:Nat} {v:Value} {ρ:Rho} (h:evPart P t xs off=some v) (hl:LR (SR ρ) xs.toList ys.toList) :
  ∃ v',V1 ρ v v'∧∀ w,(part t ys off).run P w=.ok v' w:=by
 unfold evPart at h
 split at h
 ·rename_i n h1 h2
  simp only [Option.some.injEq] at h;subst h;refine ⟨.agg (ys.extract off (off+n)),.agg ?_,fun w=>by simp [part,run_isAggT h1,run_szOf h2]⟩;simp only [Array.toList_extract,List.extract_eq_take_drop];exact (hl.drop _).take _
 ·rename_i h1
  have e:xs.toList[off]?=some v:=by simpa using h
  obtain ⟨v',e1,e2⟩:=hl.get e;refine ⟨v',.sc e2,fun w=>?_⟩;have e3:ys[off]?=some v':=by simpa using e1
  simp [part,run_isAggT h1,e3]
 ·cases h
def ptrV (b o:Nat):Value:=.pointer (some ⟨b,o,none⟩)
def evNil (P:Program) (op:BinOp) (t:TypeId) (u v:Value):Option Value :=
 match u,v,P.underlying t with
 | .pointer (some _),.pointer none,some (.pointer _)=>match op with
  | .eql=>some (.bool false)
  | .neq=>some (.bool true)
  | _=>none
 | .slice (some _) _ _,.slice none 0 0,some (.slice _)=>match op with
  | .eql=>some (.bool false)
  | .neq=>some (.bool true)
  | _=>none
 | _,_,_=>none
def inRange (i:Int) (n:Nat):Bool :=
 match i with
 | .ofNat k=>Nat.blt k n
 | _=>false
theorem inRange_iff {i:Int} {n:Nat} (h:inRange i n=true):0≤i∧i<n∧i.toNat<n:=by
 unfold inRange at h
 split at h
 ·rename_i k
  have:k<n:=by simp [Nat.blt] at h;omega
  simp;omega
 ·cases h
def evIndexAddr (P:Program) (t:TypeId) (x:Value) (i:Int):Option Value :=
 match P.underlying t,x with
 | some (.array n e),.pointer (some ⟨b,o,none⟩)=>match inRange i n,szOf P e with
  | true,some z=>some (ptrV b (o+i.toNat*z))
  | _,_=>none
 | some (.slice e),.slice (some ⟨b,o,none⟩) n _=>match inRange i n,szOf P e with
  | true,some z=>some (ptrV b (o+i.toNat*z))
  | _,_=>none
 | _,_=>none
def evScal:List Value→Bool
 | []=>true
 | v::l=>match v with
  | .agg _=>false
  | .tuple _=>false
  | .func _ _ _=>false
  | _=>evScal l
def evAll (ev:Operand→Option Value):List Operand→Option (List Value)
 | []=>some []
 | x::l=>match ev x,evAll ev l with
  | some v,some r=>some (v::r)
  | _,_=>none
def evFill (place:Nat→Option (Nat×Nat)) (cells:List Value):List (Nat×List Value)→Option (List Value)
 | []=>some cells
 | (i,vs)::rest=>match place i with
  | none=>none
  | some (off,size)=>match Nat.beq vs.length size && Nat.ble (off+size) cells.length with
   | true=>evFill place (cells.take off++vs++cells.drop (off+size)) rest
   | false=>none
def evParts (ev:Operand→Option Value):List (Nat×Operand)→Option (List (Nat×List Value))
 | []=>some []
 | (i,x)::l=>match ev x with
  | none=>none
  | some v=>match cellsOf v,evParts ev l with
   | some c,some r=>some ((i,c)::r)
   | _,_=>none
def zeroOf (P:Program) (t:TypeId):Option (List Value) :=
 match (P.info? t).bind (·.zero) with
 | some v=>match pl v with
  | true=>some v.cells.toList
  | false=>none
 | none=>none
def placesOf (P:Program):List Field→Option (List (Nat×Nat))
 | []=>some []
 | f::l=>match szOf P f.type,placesOf P l with
  | some z,some r=>some ((f.offset,z)::r)
  | _,_=>none
def evBuild (P:Program) (t:TypeId) (parts:List (Nat×List Value)):Option Value :=
 match zeroOf P t,P.underlying t with
 | some z,some (.struct fs)=>match placesOf P fs.toList with
  | some pl=>match evFill (fun i=>pl[i]?) z parts with
   | some cs=>some (.agg cs.toArray)
   | none=>none
  | none=>none
 | some z,some (.array _ e)=>match szOf P e with
  | some s=>match evFill (fun i=>some (i*s,s)) z parts with
   | some cs=>some (.agg cs.toArray)
   | none=>none
  | none=>none
 | _,_=>none
def evFn:Fn→Option FuncId
 | .func f=>some f
 | _=>none
def evBI (P:Program) (b:Builtin) (t:TypeId) (ts:Array TypeId) (ty:TypeId) (l:List Value):Option Value :=
 match b with
 | .len=>match P.underlying t,l with
  | some (.slice _),[.slice _ n _]=>some (goInt n)
  | some (.array n _),[_]=>some (goInt n)
  | _,_=>none
 | .min=>match all1 l with
  | true=>prp P (Builtin.min_ ts ty l.toArray)
  | false=>none
 | .max=>match all1 l with
  | true=>prp P (Builtin.max_ ts ty l.toArray)
  | false=>none
 | _=>none
def ePick (ev:Operand→Option Value) (c a b:Operand):Option Value :=
 match ev c with
 | some (.bool true)=>ev a
 | some (.bool false)=>ev b
 | _=>none
def kN:IntKind→Nat
 | .i8=>0
 | .i16=>1
 | .i32=>2
 | .i64=>3
 | .u8=>4
 | .u16=>5
 | .u32=>6
 | .u64=>7
def cmpI (op:BinOp) (x y:Int):Option Bool :=
 match op with
 | .eql=>some (x==y)
 | .neq=>some (x != y)
 | .lss=>some (decide (x<y))
 | .leq=>some (decide (x≤y))
 | .gtr=>some (decide (x > y))
 | .geq=>some (decide (x ≥ y))
 | _=>none
def binSlow (P:Program) (op:BinOp) (t:TypeId) (x y:Operand) (u v:Value):Option Value :=
 match pl u && pl v with
 | true=>prp P (do eqGuard op t x y u v;binOp op t u v)
 | false=>evNil P op t u v
def binI (P:Program) (op:BinOp) (t:TypeId) (x y:Operand) (j:IntKind) (a:Int) (k:IntKind) (b:Int):Option Value :=
 match Nat.beq (kN j) (kN k) with
 | true=>match cmpI op a b with
  | some r=>some (.bool r)
  | none=>match op with
   | .add=>some (.int j (j.wrap (a+b)))
   | .sub=>some (.int j (j.wrap (a-b)))
   | _=>binSlow P op t x y (.int j a) (.int k b)
 | false=>binSlow P op t x y (.int j a) (.int k b)
def eBin2 (P:Program) (op:BinOp) (t:TypeId) (x y:Operand) (u v:Value):Option Value :=
 match u with
 | .int j a=>match v with
  | .int k b=>binI P op t x y j a k b
  | _=>binSlow P op t x y u v
 | _=>binSlow P op t x y u v
def eBin (P:Program) (ev:Operand→Option Value) (op:BinOp) (t:TypeId) (x y:Operand):Option Value :=
 match ev x,ev y with
 | some u,some v=>eBin2 P op t x y u v
 | _,_=>none
def eUn (P:Program) (ev:Operand→Option Value) (op:UnOp) (x:Operand):Option Value :=
 match ev x with
 | some u=>match pl u with
  | true=>prp P (Op.unary op u)
  | false=>none
 | none=>none
def eConv (P:Program) (ev:Operand→Option Value) (s d:TypeId) (x:Operand):Option Value :=
 match ev x with
 | some u=>match pl u with
  | true=>prp P (convert s d u)
  | false=>none
 | none=>none
def eBuild (P:Program) (ev:Operand→Option Value) (t:TypeId) (parts:Array (Nat×Operand)):Option Value :=
 match evParts ev parts.toList with
 | some ps=>evBuild P t ps
 | none=>none
def eNilC (ev:Operand→Option Value) (x:Operand):Option Value :=
 match ev x with
 | some (.pointer (some ⟨b,o,none⟩))=>some (ptrV b o)
 | _=>none
def fOff (P:Program) (s:TypeId) (f:Nat):Option Nat :=
 match P.underlying s with
 | some (.struct fs)=>match fs[f]? with
  | some fd=>match szOf P fd.type with
   | some (_+1)=>some fd.offset
   | _=>none
  | none=>none
 | _=>none
def eFA (P:Program) (ev:Operand→Option Value) (s:TypeId) (x:Operand) (f:Nat):Option Value :=
 match fOff P s f,ev x with
 | some d,some (.pointer (some ⟨b,o,none⟩))=>some (ptrV b (o+d))
 | _,_=>none
def eF (P:Program) (ev:Operand→Option Value) (t:TypeId) (x:Operand) (f:Nat):Option Value :=
 match P.underlying t,ev x with
 | some (.struct fs),some (.agg cs)=>match fs[f]? with
  | some fd=>evPart P fd.type cs fd.offset
  | none=>none
 | _,_=>none
def eIA (P:Program) (ev:Operand→Option Value) (t:TypeId) (x ix:Operand):Option Value :=
 match ev ix,ev x with
 | some (.int _ i),some u=>evIndexAddr P t u i
 | _,_=>none
def eI (P:Program) (ev:Operand→Option Value) (t:TypeId) (x ix:Operand):Option Value :=
 match ev ix,ev x,P.underlying t with
 | some (.int _ i),some (.agg cs),some (.array n e)=>match inRange i n,szOf P e with
  | true,some z=>evPart P e cs (i.toNat*z)
  | _,_=>none
 | _,_,_=>none
def eX (ev:Operand→Option Value) (x:Operand) (i:Nat):Option Value :=
 match ev x with
 | some (.tuple vs)=>vs[i]?
 | _=>none
def eMF (ev:Operand→Option Value) (fn:Fn) (first captured:Array Operand):Option Value :=
 match evFn fn with
 | some f=>match first.toList,evAll ev captured.toList with
  | [],some l=>match evScal l with
   | true=>some (.func (.func f) #[] l.toArray)
   | false=>none
  | _,_=>none
 | none=>none
def eB (P:Program) (ev:Operand→Option Value) (c:Call) (ty:TypeId):Option Value :=
 match c.callee with
 | .builtin b=>match c.argTypes.toList,evAll ev c.args.toList with
  | t::_,some l=>evBI P b t c.argTypes ty l
  | _,_=>none
 | _=>none
def evP (P:Program) (ev:Operand→Option Value) (o:Oper):Option Value :=
 match o.op with
 | .move x=>ev x
 | .assign x=>ev x
 | .pick c a b=>ePick ev c a b
 | .binOp op t x y _=>eBin P ev op t x y
 | .unOp op _ x=>eUn P ev op x
 | .convert s d x=>eConv P ev s d x
 | .build t parts=>eBuild P ev t parts
 | .nilCheck x=>eNilC ev x
 | .fieldAddr s x f=>eFA P ev s x f
 | .field t x f=>eF P ev t x f
 | .indexAddr t x ix=>eIA P ev t x ix
 | .index t x ix=>eI P ev t x ix
 | .extract x i=>eX ev x i
 | .makeFunc fn first captured=>eMF ev fn first captured
 | .call c=>eB P ev c o.type
 | _=>none
section
variable {P:Program} {ρ:Rho} {ev:Operand→Option Value} {ρe:Operand→Value}
theorem evAll_spec (he:∀ x u,ev x=some u→VR ρ u (ρe x)):∀ (l:List Operand) (r:List Value),evAll ev l=some r→LR (VR ρ) r (l.map ρe)
 | [],r,h=>by simp only [evAll,Option.some.injEq] at h;subst h;exact .nil
 | x::l,r,h=>by
  simp only [evAll] at h
  split at h
  ·rename_i v r' h1 h2
   simp only [Option.some.injEq] at h;subst h;exact .cons (he _ _ h1) (evAll_spec he l _ h2)
  ·cases h
theorem evScal_spec:∀ (l m:List Value),evScal l=true→LR (VR ρ) l m→LR (SR ρ) l m
 | [],_,_,.nil=>.nil
 | v::l,_,h,.cons r t=>by
  have h2:evScal l=true:=by
   unfold evScal at h
   split at h<;>first | cases h | exact h
  refine .cons ?_ (evScal_spec l _ h2 t)
  cases r with
  | one r=>cases r with
   | sc r=>exact r
   | agg r=>simp [evScal] at h
   | fn r=>simp [evScal] at h
  | tup r=>simp [evScal] at h
theorem evParts_spec (he:∀ x u,ev x=some u→VR ρ u (ρe x)):∀ (l:List (Nat×Operand)) (r:List (Nat×List Value)),evParts ev l=some r →
  LR (fun a b=>a.1=b.1∧LR (SR ρ) a.2 b.2.cells.toList) r (l.map fun (i,x)=>(i,ρe x))
 | [],r,h=>by simp only [evParts,Option.some.injEq] at h;subst h;exact .nil
 | (i,x)::l,r,h=>by
  simp only [evParts] at h
  split at h
  ·cases h
  ·rename_i v hv
   split at h
   ·rename_i c r' h1 h2
    simp only [Option.some.injEq] at h;subst h;have hx:=he _ _ hv;refine .cons ⟨rfl,?_⟩ (evParts_spec he l _ h2);show LR (SR ρ) c (ρe x).cells.toList;generalize ρe x=y at hx
    cases hx with
    | one hx=>have:=hx.cells h1;exact this
    | tup _=>simp [cellsOf] at h1
   ·cases h
theorem foldl_set (off:Nat):∀ (vs:List Value) (k:Nat) (cs:Array Value),(vs.zipIdx k).foldl (fun (cs:Array Value) (x:Value×Nat)=>cs.setIfInBounds (off+x.2) x.1) cs =
  (cs.toList.zipIdx.map fun (x:Value×Nat)=>if off+k≤x.2 then (vs[x.2-(off+k)]?).getD x.1 else x.1).toArray
 | [],k,cs=>by
  apply Array.toList_inj.1;simp only [List.zipIdx_nil,List.foldl_nil];apply List.ext_getElem?;intro i;simp only [List.getElem?_map,List.getElem?_zipIdx]
  cases cs.toList[i]?<;>simp
 | v::vs,k,cs=>by
  rw [List.zipIdx_cons,List.foldl_cons,foldl_set off vs (k+1)]
  congr 1
  apply List.ext_getElem?;intro i;simp only [List.getElem?_map,List.getElem?_zipIdx,Array.toList_setIfInBounds,List.getElem?_set,Nat.zero_add]
  by_cases e:off+k=i
  ·subst e
   by_cases hl:off+k<cs.toList.length
   ·rw [if_pos rfl,if_pos hl,List.getElem?_eq_getElem hl];simp only [Option.map_some,Nat.sub_self,List.getElem?_cons_zero,Option.getD_some,Nat.le_refl,if_true];rw [if_neg (by omega)]
   ·rw [if_pos rfl,if_neg hl,List.getElem?_eq_none (Nat.le_of_not_lt hl)]
    rfl
  ·simp only [if_neg e]
   cases hc:cs.toList[i]? with
   | none=>simp
   | some x =>
    simp only [Option.map_some]
    by_cases h1:off+(k+1)≤i
    ·rw [if_pos h1,if_pos (by omega),show i-(off+k)=(i-(off+(k+1)))+1 by omega,List.getElem?_cons_succ]
    ·rw [if_neg h1,if_neg (by omega)]
theorem evFill_spec {place place':Nat→Option (Nat×Nat)} (hp:∀ i,place' i=place i):∀ (parts:List (Nat×List Value)) (parts':List (Nat×Value)) (cells:List Value) (cells':Array Value) (r:List Value),
  LR (fun a b=>a.1=b.1∧LR (SR ρ) a.2 b.2.cells.toList) parts parts'→LR (SR ρ) cells cells'.toList→evFill place cells parts=some r →
  ∃ r',Instr.fill place' cells' parts'=some r'∧LR (SR ρ) r r'.toList
 | [],_,cells,cells',r,.nil,hc,h=>by simp only [evFill,Option.some.injEq] at h;subst h;exact ⟨cells',rfl,hc⟩
 | (i,vs)::rest,_,cells,cells',r, @LR.cons _ _ _ _ (j,v) _ rest' ⟨e,hv⟩ ht,hc,h=>by
  simp only at e hv;subst e;simp only [evFill] at h;simp only [Instr.fill,hp]
  split at h
  ·cases h
  ·rename_i off size hpl
   split at h
   ·rename_i hb
    simp only [Bool.and_eq_true,Nat.beq_eq] at hb;obtain ⟨hb1,hb2⟩:=hb;have hb2:=Nat.le_of_ble_eq_true hb2;have hl1:=hv.len;have hl2:=hc.len;simp only [Array.length_toList] at hl1 hl2;rw [hpl];dsimp only;rw [if_neg (by simp;omega)];refine evFill_spec hp rest rest' _ _ r ht ?_ h;have e2:v.cells.zipIdx.foldl (fun (cs:Array Value) (x:Value×Nat)=>cs.setIfInBounds (off+x.2) x.1) cells'=(v.cells.toList.zipIdx.foldl (fun (cs:Array Value) (x:Value×Nat)=>cs.setIfInBounds (off+x.2) x.1) cells'):=by
     rw [← Array.toList_zipIdx,Array.foldl_toList]
    show LR (SR ρ) _ (v.cells.zipIdx.foldl (fun (cs:Array Value) (x:Value×Nat)=>cs.setIfInBounds (off+x.2) x.1) cells').toList;rw [e2,foldl_set];refine LR.of_get (by simp;omega) fun k a b' e3 e4=>?_;simp only [Nat.add_zero,List.getElem?_map,List.getElem?_zipIdx,Nat.zero_add] at e4
    cases hcc:cells'.toList[k]? with
    | none=>rw [hcc] at e4;cases e4
    | some x =>
     rw [hcc] at e4;simp only [Option.map_some,Option.some.injEq] at e4
     by_cases h1:off≤k∧k<off+size
     ·rw [if_pos h1.1] at e4;have e5:(cells.take off++vs++cells.drop (off+size))[k]?=vs[k-off]?:=by
       rw [List.append_assoc,List.getElem?_append_right (by simp;omega),List.getElem?_append_left (by simp;omega)]
       congr 1;simp;omega
      rw [e5] at e3;obtain ⟨u,u1,u2⟩:=hv.get e3;rw [u1,Option.getD_some] at e4;rw [← e4];exact u2
     ·have e5:(cells.take off++vs++cells.drop (off+size))[k]?=cells[k]?:=by
       by_cases h2:k<off
       ·rw [List.append_assoc,List.getElem?_append_left (by simp;omega),List.getElem?_take_of_lt h2]
       ·rw [List.getElem?_append_right (by simp;omega),List.getElem?_drop]
        congr 1;simp;omega
      rw [e5] at e3;obtain ⟨u,u1,u2⟩:=hc.get e3;rw [hcc] at u1;simp only [Option.some.injEq] at u1;have e6:b'=x:=by
       by_cases h2:off≤k
       ·rw [if_pos h2,List.getElem?_eq_none (by simp;omega),Option.getD_none] at e4;exact e4.symm
       ·rw [if_neg h2] at e4;exact e4.symm
      rw [e6,u1];exact u2
   ·cases h
theorem zeroOf_run {t:TypeId} {z:List Value} (h:zeroOf P t=some z):∃ v:Value,v.cells.toList=z∧LR (SR ρ) z z∧(∀ w,(zeroValue t).run P w=.ok v w)∧all1 z=true∧∃ i,P.info? t=some i∧i.zero=some v:=by
 unfold zeroOf at h
 split at h
 ·rename_i v hv
  split at h
  ·rename_i hp
   simp only [Option.some.injEq] at h;subst h;have ha:all1 v.cells.toList=true:=by
    cases v<;>first | exact hp | (simp only [pl] at hp;simp [Value.cells,all1,hp])
   cases hi:P.info? t with
   | none=>rw [hi] at hv;cases hv
   | some i =>
    rw [hi] at hv;simp only [Option.bind_some] at hv;exact ⟨v,rfl,LR.refl1 ha,fun w=>by simp [zeroValue,typeInfo,hi,hv],ha,i,rfl,hv⟩
  ·cases h
 ·cases h
theorem placesOf_run:∀ (fs:List Field) (l:List (Nat×Nat)),placesOf P fs=some l→∀ w,(fs.mapM (m:=Sem) fun f=>Prod.mk f.offset <$> sizeOf f.type).run P w=.ok l w
 | [],l,h,w=>by simp only [placesOf,Option.some.injEq] at h;subst h;rfl
 | f::fs,l,h,w=>by
  simp only [placesOf] at h
  split at h
  ·rename_i z r h1 h2
   simp only [Option.some.injEq] at h;subst h;have ih:=placesOf_run fs r h2 w;simp [List.mapM_cons,run_szOf h1,ih]
  ·cases h
theorem evBuild_run {t:TypeId} {parts:List (Nat×List Value)} {parts':Array (Nat×Value)} {v:Value} (hp:LR (fun a b=>a.1=b.1∧LR (SR ρ) a.2 b.2.cells.toList) parts parts'.toList) (h:evBuild P t parts=some v) :
  ∃ v',V1 ρ v v'∧∀ w,(Instr.build t parts').run P w=.ok v' w:=by
 unfold evBuild at h
 split at h
 ·rename_i z fs h1 h2
  split at h
  ·rename_i pl h3
   split at h
   ·rename_i cs h4
    simp only [Option.some.injEq] at h;subst h;obtain ⟨yzv,z1,z2,yz3,_⟩:=zeroOf_run (ρ:=ρ) h1;obtain ⟨r',r1,r2⟩:=evFill_spec (ρ:=ρ) (place':=fun i=>pl.toArray[i]?) (fun i=>by simp) _ _ _ yzv.cells _ hp (by rw [z1];exact z2) h4;refine ⟨.agg r',.agg (by simpa using r2),fun w=>?_⟩;have hm:∀ w,(fs.mapM (m:=Sem) fun f=>Prod.mk f.offset <$> sizeOf f.type).run P w=.ok pl.toArray w:=fun w=>by
     rw [Array.mapM_eq_mapM_toList];simp [placesOf_run _ _ h3 w]
    have r1':Instr.fill (fun i=>pl[i]?) yzv.cells parts'.toList=some r':=by rw [← r1];congr 1;funext i;simp
    simp [Instr.build,yz3,run_underlying h2,hm,r1']
   ·cases h
  ·cases h
 ·rename_i z n e h1 h2
  split at h
  ·rename_i s h3
   split at h
   ·rename_i cs h4
    simp only [Option.some.injEq] at h;subst h;obtain ⟨yzv,z1,z2,yz3,_⟩:=zeroOf_run (ρ:=ρ) h1;obtain ⟨r',r1,r2⟩:=evFill_spec (ρ:=ρ) (place':=fun i=>some (i*s,s)) (fun i=>rfl) _ _ _ yzv.cells _ hp (by rw [z1];exact z2) h4;refine ⟨.agg r',.agg (by simpa using r2),fun w=>?_⟩;simp [Instr.build,yz3,run_underlying h2,run_szOf h3,r1]
   ·cases h
  ·cases h
 ·cases h
end
end
noncomputable section
section
variable {P:Program} {ρ:Rho} {ev:Operand→Option Value} {ρe:Operand→Value}
theorem eqGuard_nil1 {op:BinOp} {t:TypeId} {x y:Operand} {a b:Option Addr} (w:World):(eqGuard op t x y (.pointer a) (.pointer b)).run P w=.ok () w:=by cases op<;>rfl
theorem eqGuard_nil2 {op:BinOp} {t:TypeId} {x y:Operand} {a b:Option Addr} {n c n' c':Nat} (w:World):(eqGuard op t x y (.slice a n c) (.slice b n' c')).run P w=.ok () w:=by cases op<;>rfl
theorem evNil_run {op:BinOp} {t:TypeId} {u v u':Value} {x y:Operand} {r:Value} (h:evNil P op t u v=some r) (hu:VR ρ u u'):VR ρ r r∧∀ w,(do eqGuard op t x y u' v;binOp op t u' v:Sem Value).run P w=.ok r w:=by
 unfold evNil at h
 split at h
 ·rename_i a e ht
  have hu':∃ a',u'=.pointer (some a'):=by
   cases hu with
   | one hu=>cases hu with
    | sc hu=>cases hu;exact ⟨_,rfl⟩
  obtain ⟨a',rfl⟩:=hu';have ht':P.underlying t=some (.pointer (P.pointee t)):=by rw [ht];simp [Program.pointee,ht]
  split at h
  ·cases h;exact ⟨.one (.sc (.bool _)),fun w=>by rw [Sem.run_bind,eqGuard_nil1];exact run_eql_pointer_nil w t _ ht'⟩
  ·cases h;exact ⟨.one (.sc (.bool _)),fun w=>by rw [Sem.run_bind,eqGuard_nil1];exact run_neq_pointer_nil w t _ ht'⟩
  ·cases h
 ·rename_i a n c e ht
  have hu':∃ a' c',u'=.slice (some a') n c':=by
   cases hu with
   | one hu=>cases hu with
    | sc hu=>cases hu<;>exact ⟨_,_,rfl⟩
  obtain ⟨a',c',rfl⟩:=hu'
  split at h
  ·cases h;exact ⟨.one (.sc (.bool _)),fun w=>by
    rw [Sem.run_bind,eqGuard_nil2];show (binOp .eql t (.slice (some a') n c') (.slice none 0 0)).run P w=_;simp only [binOp];rw [Sem.run_bind,run_equal_slice_nil w t e _ _ _ ht];rfl⟩
  ·cases h;exact ⟨.one (.sc (.bool _)),fun w=>by rw [Sem.run_bind,eqGuard_nil2];exact run_neq_slice_nil w t e _ _ _ ht⟩
  ·cases h
 ·cases h
theorem evAll1_eq (he:∀ x u,ev x=some u→VR ρ u (ρe x)) {l:List Operand} {r:List Value} (h:evAll ev l=some r) (ha:all1 r=true):l.map ρe=r:=by
 have h1:=evAll_spec he _ _ h;clear h;generalize l.map ρe=m at h1
 induction h1 with
 | nil=>rfl
 | @cons a b l m h t ih =>
  have ha1:=all1_mem ha a (by simp);have ha2:all1 l=true:=by
   unfold all1 at ha
   split at ha
   ·exact ha
   ·cases ha
  have:pl a=true:=by cases a<;>first | exact ha1 | (simp [pl1] at ha1)
  rw [h.eq1 this,ih ha2]
theorem run_indexAt_ok {t e:TypeId} {x:Value} {a:Addr} {k:IntKind} {i:Int} {n z:Nat} {c:Nat} (hx:(P.underlying t=some (.array n e)∧x=.pointer (some a))∨(P.underlying t=some (.slice e)∧x=.slice (some a) n c)) (hi:inRange i n=true) (hz:szOf P e=some z) (w:World) :
  (Instr.indexAt t x (.int k i)).run P w=.ok (.pointer (some (a.add (i.toNat*z)))) w:=by
 obtain ⟨h0,h1,_⟩:=inRange_iff hi
 rcases hx with ⟨hu,rfl⟩ | ⟨hu,rfl⟩
 ·simp [Instr.indexAt,asIntOf,run_underlying hu,Instr.sureAddr,h0,h1,run_szOf hz]
 ·simp [Instr.indexAt,asIntOf,run_underlying hu,h0,h1,run_szOf hz]
theorem evIndexAddr_run {t:TypeId} {x x':Value} {i:Int} {k:IntKind} {v:Value} (h:evIndexAddr P t x i=some v) (hx:VR ρ x x'):∃ v',VR ρ v v'∧∀ w,(Instr.indexAt t x' (.int k i)).run P w=.ok v' w:=by
 unfold evIndexAddr at h
 split at h
 ·rename_i n e b o hu
  split at h
  ·rename_i z hr hz
   cases h
   obtain ⟨C,O,N,e1,rfl⟩:=hx.ptr_inv;exact ⟨_,.one (.sc (.ptr e1)),fun w=>by rw [run_indexAt_ok (c:=0) (.inl ⟨hu,rfl⟩) hr hz w,Addr.add_lit,Nat.add_assoc]⟩
  ·cases h
 ·rename_i e b o n c hu
  split at h
  ·rename_i z hr hz
   cases h
   obtain ⟨C,O,N,c',e1,rfl⟩:=hx.sl_inv (by have:=(inRange_iff hr).2.2;omega);exact ⟨_,.one (.sc (.ptr e1)),fun w=>by rw [run_indexAt_ok (.inr ⟨hu,rfl⟩) hr hz w,Addr.add_lit,Nat.add_assoc]⟩
  ·cases h
 ·cases h
theorem pl_and {u v:Value} (h:(pl u && pl v)=true):pl u=true∧pl v=true:=by simpa using h
theorem kN_inj {j k:IntKind} (h:Nat.beq (kN j) (kN k)=true):j=k:=by
 have:=Nat.eq_of_beq_eq_true h
 cases j<;>cases k<;>first | rfl | (simp [kN] at this)
theorem binSlow_run {op:BinOp} {t:TypeId} {x y:Operand} {u v r u' v':Value} (h:binSlow P op t x y u v=some r) (hu:VR ρ u u') (hv:VR ρ v v'):VR ρ r r∧∀ w,(do eqGuard op t x y u' v';binOp op t u' v':Sem Value).run P w=.ok r w:=by
 unfold binSlow at h
 split at h
 ·rename_i hp
  obtain ⟨p1,p2⟩:=pl_and hp;obtain ⟨q1,q2⟩:=prp_run h;rw [hu.eq1 p1,hv.eq1 p2];exact ⟨.one (V1.refl1 q1),q2⟩
 ·have hvp:pl v=true:=by
   unfold evNil at h
   split at h
   ·rfl
   ·rfl
   ·cases h
  rw [hv.eq1 hvp];exact evNil_run h hu
theorem cmpI_run {op:BinOp} {a b:Int} {r:Bool} (h:cmpI op a b=some r) (t:TypeId) (x y:Operand) (j:IntKind):∀ w,(do eqGuard op t x y (.int j a) (.int j b);binOp op t (.int j a) (.int j b):Sem Value).run P w=.ok (.bool r) w:=by
 unfold cmpI at h
 split at h<;>cases h<;>intro w<;>simp [eqGuard,binOp,Op.intCmp]
theorem binI_run {op:BinOp} {t:TypeId} {x y:Operand} {j k:IntKind} {a b:Int} {r:Value} (h:binI P op t x y j a k b=some r):VR ρ r r∧∀ w,(do eqGuard op t x y (.int j a) (.int k b);binOp op t (.int j a) (.int k b):Sem Value).run P w=.ok r w:=by
 unfold binI at h
 split at h
 ·rename_i hk
  have hk:=kN_inj hk;subst hk
  split at h
  ·rename_i r' hr
   cases h
   exact ⟨.one (.sc (.bool _)),cmpI_run hr t x y j⟩
  ·split at h
   ·cases h;exact ⟨.one (.sc (.int _ _)),fun w=>by simp [eqGuard,binOp,Op.intArith]⟩
   ·cases h;exact ⟨.one (.sc (.int _ _)),fun w=>by simp [eqGuard,binOp,Op.intArith]⟩
   ·exact binSlow_run h (.one (.sc (.int _ _))) (.one (.sc (.int _ _)))
 ·exact binSlow_run h (.one (.sc (.int _ _))) (.one (.sc (.int _ _)))
theorem fOff_spec {s f d:Nat} (h:fOff P s f=some d):∃ fs fd z,P.underlying s=some (.struct fs)∧fs[f]?=some fd∧szOf P fd.type=some (z+1)∧fd.offset=d:=by
 unfold fOff at h
 split at h
 ·rename_i fs hu
  split at h
  ·rename_i fd hf
   split at h
   ·rename_i z hz
    cases h
    exact ⟨fs,fd,z,hu,hf,hz,rfl⟩
   ·cases h
  ·cases h
 ·cases h
theorem evP_run {o:Oper} {v:Value} (he:∀ x u,ev x=some u→VR ρ u (ρe x)) (h:evP P ev o=some v):∃ v',VR ρ v v'∧∀ w,(execOp ρe o).run P w=.ok (.value v') w:=by
 obtain ⟨dst,op,type,pos,after,guard⟩:=o;unfold evP at h;dsimp only at h
 split at h
 ·exact ⟨_,he _ _ h,fun w=>rfl⟩
 ·exact ⟨_,he _ _ h,fun w=>rfl⟩
 ·rename_i c a b
  unfold ePick at h
  split at h
  ·rename_i hc
   have:=(he _ _ hc).bool_inv;exact ⟨_,he _ _ h,fun w=>by simp [execOp,this,asBool]⟩
  ·rename_i hc
   have:=(he _ _ hc).bool_inv;exact ⟨_,he _ _ h,fun w=>by simp [execOp,this,asBool]⟩
  ·cases h
 ·rename_i op t x y yt
  unfold eBin at h
  split at h
  ·rename_i u v' hu hv
   have hru:=he _ _ hu;have hrv:=he _ _ hv;have fin:(VR ρ v v∧∀ w,(do eqGuard op t x y (ρe x) (ρe y);binOp op t (ρe x) (ρe y):Sem Value).run P w=.ok v w)→∃ v',VR ρ v v'∧∀ w,(execOp ρe ⟨dst,.binOp op t x y yt,type,pos,after,guard⟩).run P w=.ok (.value v') w:=fun ⟨r1,r2⟩=>by
    refine ⟨v,r1,fun w=>?_⟩;simp only [execOp];rw [Sem.run_bind,r2 w];rfl
   unfold eBin2 at h
   split at h
   ·rename_i j a
    split at h
    ·rename_i k b
     refine fin ?_;rw [hru.int_inv,hrv.int_inv];exact binI_run h
    ·exact fin (binSlow_run h hru hrv)
   ·exact fin (binSlow_run h hru hrv)
  ·cases h
 ·rename_i op t x
  unfold eUn at h
  split at h
  ·rename_i u hu
   split at h
   ·rename_i hp
    obtain ⟨q1,q2⟩:=prp_run h;have e1:=(he _ _ hu).eq1 hp;refine ⟨v,.one (V1.refl1 q1),fun w=>?_⟩;simp only [execOp,e1];rw [Sem.run_bind,q2 w];rfl
   ·cases h
  ·cases h
 ·rename_i s d x
  unfold eConv at h
  split at h
  ·rename_i u hu
   split at h
   ·rename_i hp
    obtain ⟨q1,q2⟩:=prp_run h;have e1:=(he _ _ hu).eq1 hp;refine ⟨v,.one (V1.refl1 q1),fun w=>?_⟩;simp only [execOp,e1];rw [Sem.run_bind,q2 w];rfl
   ·cases h
  ·cases h
 ·rename_i t parts
  unfold eBuild at h
  split at h
  ·rename_i ps hps
   have hs:=evParts_spec he _ _ hps;obtain ⟨v',a1,a2⟩:=evBuild_run (ρ:=ρ) (parts':=parts.map fun (i,x)=>(i,ρe x)) (by simpa using hs) h;refine ⟨v',.one a1,fun w=>?_⟩;simp only [execOp];rw [Sem.run_bind,a2 w];rfl
  ·cases h
 ·rename_i x
  unfold eNilC at h
  split at h
  ·rename_i b o hx
   cases h
   have hx':=he _ _ hx;obtain ⟨C,O,N,e1,e2⟩:=hx'.ptr_inv;refine ⟨_,hx',fun w=>?_⟩;simp only [execOp,e2]
   rfl
  ·cases h
 ·rename_i s x f
  unfold eFA at h
  split at h
  ·rename_i d b o hd hx
   cases h
   obtain ⟨fs,fd,z,hu,hf,hz,rfl⟩:=fOff_spec hd;obtain ⟨C,O,N,e1,e2⟩:=(he _ _ hx).ptr_inv;refine ⟨_,.one (.sc (.ptr (o:=o+fd.offset) e1)),fun w=>?_⟩;simp only [execOp,e2];simp [Instr.fieldAt,run_underlying hu,hf,Instr.sureAddr,fieldPlace,run_szOf hz,Addr.add_lit,Nat.add_assoc]
  ·cases h
 ·rename_i t x f
  unfold eF at h
  split at h
  ·rename_i fs cs hu hx
   split at h
   ·rename_i fd hf
    obtain ⟨ys,e1,e2⟩:=(he _ _ hx).agg_inv;obtain ⟨v',a1,a2⟩:=evPart_run h e2;refine ⟨v',.one a1,fun w=>?_⟩;simp only [execOp,e1];simp [Instr.field,run_underlying hu,hf,asAgg,a2]
   ·cases h
  ·cases h
 ·rename_i t x ix
  unfold eIA at h
  split at h
  ·rename_i k i u hi hx
   have e1:=(he _ _ hi).int_inv;obtain ⟨v',a1,a2⟩:=evIndexAddr_run (k:=k) h (he _ _ hx);refine ⟨v',a1,fun w=>?_⟩;simp only [execOp,e1];rw [Sem.run_bind,a2 w];rfl
  ·cases h
 ·rename_i t x ix
  unfold eI at h
  split at h
  ·rename_i k i cs n e hi hx hu
   split at h
   ·rename_i z hr hz
    obtain ⟨ys,e1,e2⟩:=(he _ _ hx).agg_inv;have e3:=(he _ _ hi).int_inv;obtain ⟨v',a1,a2⟩:=evPart_run h e2;obtain ⟨h0,h1,_⟩:=inRange_iff hr;refine ⟨v',.one a1,fun w=>?_⟩;simp only [execOp,e1,e3];simp [Instr.index,asIntOf,run_underlying hu,h0,h1,run_szOf hz,a2]
   ·cases h
  ·cases h
 ·rename_i x i
  unfold eX at h
  split at h
  ·rename_i vs hx
   obtain ⟨ys,e1,e2⟩:=(he _ _ hx).tup_inv;obtain ⟨v',a1,a2⟩:=e2.get (i:=i) (a:=v) (by simpa using h);have a3:ys[i]?=some v':=by simpa using a1
   refine ⟨v',.one a2,fun w=>?_⟩;simp only [execOp,e1];simp [Instr.extract,a3]
  ·cases h
 ·rename_i fn first captured
  unfold eMF at h
  split at h
  ·rename_i f hf
   split at h
   ·rename_i l h0 hl
    split at h
    ·rename_i hs
     cases h
     have e0:first=#[]:=by apply Array.toList_inj.1;exact h0
     have e1:fn=.func f:=by cases fn<;>simp [evFn] at hf;rw [hf]
     subst e0 e1;refine ⟨.func (.func f) #[] (captured.map ρe),.one (.fn ?_),fun w=>?_⟩
     ·have:=evScal_spec _ _ hs (evAll_spec he _ _ hl)
      simpa using this
     ·simp [execOp,Instr.makeFunc]
    ·cases h
   ·cases h
  ·cases h
 ·rename_i c
  unfold eB at h;obtain ⟨callee,args,ats⟩:=c;dsimp only at h
  split at h
  ·rename_i b
   split at h
   ·rename_i t ts' l h0 hl
    have hx:(execOp ρe ⟨dst,.call ⟨.builtin b,args,ats⟩,type,pos,after,guard⟩)=builtin b ats type (args.map fun | .const _=>true | _=>false) (args.map ρe):=rfl;have ht:ats[0]?=some t:=by rw [← Array.getElem?_toList,h0];rfl
    unfold evBI at h
    split at h
    ·split at h
     ·rename_i e p n c hu
      cases h
      have hl':=evAll_spec he _ _ hl
      cases hm:args.toList.map ρe with
      | nil=>rw [hm] at hl';cases hl'
      | cons y ys =>
       rw [hm] at hl'
       cases hl' with
       | cons r1 r2 =>
        obtain ⟨p',c',e1,_⟩:=r1.sl_len;have:args.map ρe=(y::ys).toArray:=by apply Array.toList_inj.1;rw [Array.toList_map,hm]
        refine ⟨_,.one (.sc (.int _ _)),fun w=>?_⟩;rw [hx,this,e1];simp [builtin,Builtin.len_,run_underlying hu,ht,goInt]
     ·rename_i n e u hu
      cases h
      have hl':=evAll_spec he _ _ hl
      cases hm:args.toList.map ρe with
      | nil=>rw [hm] at hl';cases hl'
      | cons y ys =>
       have:args.map ρe=(y::ys).toArray:=by apply Array.toList_inj.1;rw [Array.toList_map,hm]
       refine ⟨_,.one (.sc (.int _ _)),fun w=>?_⟩;rw [hx,this];simp [builtin,Builtin.len_,run_underlying hu,ht,goInt]
     ·cases h
    ·split at h
     ·rename_i ha
      have e1:=evAll1_eq he hl ha;obtain ⟨q1,q2⟩:=prp_run h;have:args.map ρe=l.toArray:=by apply Array.toList_inj.1;rw [Array.toList_map,e1]
      refine ⟨v,.one (V1.refl1 q1),fun w=>?_⟩;rw [hx,this];simp [builtin,q2 w]
     ·cases h
    ·split at h
     ·rename_i ha
      have e1:=evAll1_eq he hl ha;obtain ⟨q1,q2⟩:=prp_run h;have:args.map ρe=l.toArray:=by apply Array.toList_inj.1;rw [Array.toList_map,e1]
      refine ⟨v,.one (V1.refl1 q1),fun w=>?_⟩;rw [hx,this];simp [builtin,q2 w]
     ·cases h
    ·cases h
   ·cases h
  ·cases h
 ·cases h
end
end
noncomputable section
def evBound (ev:Operand→Option Value):Option Operand→Option (Option Nat)
 | none=>some none
 | some x=>match ev x with
  | some (.int _ (.ofNat n))=>some (some n)
  | _=>none
def known (M:Mem) (b:Nat):Nat :=
 match M.bs.get b with
 | some (.cells n _)=>n
 | _=>0
def evSlice (M:Mem) (b o n c z l:Nat) (h m:Option Nat):Option Value :=
 match m with
 | some m=>match h with
  | none=>none
  | some h=>match Nat.ble l h && Nat.ble h m && Nat.blt m UNK,Nat.blt c UNK with
   | true,true=>match Nat.ble m c with
    | true=>some (.slice (some ⟨b,cond (Nat.beq m l) o (o+l*z),none⟩) (h-l) (m-l))
    | false=>none
   | true,false=>match Nat.ble m n && Nat.beq c (UNK+z) && Nat.blt 0 z with
    | true=>some (.slice (some ⟨b,cond (Nat.beq m l) o (o+l*z),none⟩) (h-l) (m-l))
    | false=>none
   | _,_=>none
 | none=>match Nat.blt c UNK with
  | true=>match Nat.ble l (h.getD n) && Nat.ble (h.getD n) c with
   | true=>some (.slice (some ⟨b,cond (Nat.beq c l) o (o+l*z),none⟩) (h.getD n-l) (c-l))
   | false=>none
  | false=>match Nat.beq c (UNK+z) && Nat.blt 0 z && Nat.ble l (h.getD n) && (Nat.ble (h.getD n) n || Nat.ble (o+h.getD n*z) (known M b)) with
   | true=>match Nat.beq l (h.getD n) && Nat.blt 0 l with
    | true=>some (.slice (some ⟨b,0,none⟩) 0 UNK)
    | false=>some (.slice (some ⟨b,o+l*z,none⟩) (h.getD n-l) c)
   | false=>none
def eLoad (P:Program) (ev:Operand→Option Value) (M:Mem) (t:TypeId) (x:Operand):Option Value :=
 match ev x with
 | some (.pointer (some ⟨b,off,none⟩))=>match isAggT P t,szOf P t with
  | some true,some n=>match M.ld b off n with
   | some l=>some (.agg l.toArray)
   | none=>none
  | some false,_=>match M.ld b off 1 with
   | some [v]=>some v
   | _=>none
  | _,_=>none
 | _=>none
def eSlice (P:Program) (ev:Operand→Option Value) (M:Mem) (t:TypeId) (x:Operand) (lo hi mx:Option Operand):Option Value :=
 match evBound ev lo,evBound ev hi,evBound ev mx with
 | some l,some h,some m=>match P.underlying t,ev x with
  | some (.slice e),some (.slice (some ⟨b,off,none⟩) n c)=>match szOf P e with
   | some z=>evSlice M b off n c z (l.getD 0) h m
   | none=>none
  | some (.slice e),some (.slice none 0 0)=>match Nat.beq (l.getD 0) 0 && Nat.beq (h.getD 0) 0 && Nat.beq (m.getD 0) 0 && (m.isNone || h.isSome),szOf P e with
   | true,some _=>some (.slice none 0 0)
   | _,_=>none
  | some (.array n e),some (.pointer (some ⟨b,off,none⟩))=>match szOf P e,m with
   | some z,none=>match Nat.blt n UNK with
    | true=>evSlice M b off n n z (l.getD 0) h none
    | false=>none
   | _,_=>none
  | _,_=>none
 | _,_,_=>none
def eEntry (ev:Operand→Option Value) (M:Mem) (x:Operand):Option Value :=
 match ev x with
 | some (.pointer (some ⟨r,0,none⟩))=>match M.bs.get r with
  | some (.it m _ seen p)=>match seen.back?,M.bs.get m with
   | some st,some (.mp es c)=>match Nat.beq c p,es.find? (·.born == st) with
    | true,some e=>match pl e.key && pl e.val with
     | true=>some (.tuple #[e.key,e.val])
     | false=>none
    | _,_=>none
   | _,_=>none
  | _=>none
 | _=>none
def evR (P:Program) (ev:Operand→Option Value) (M:Mem) (o:Oper):Option Value :=
 match o.op with
 | .load t x=>eLoad P ev M t x
 | .slice t x lo hi mx=>eSlice P ev M t x lo hi mx
 | .entry x=>eEntry ev M x
 | _=>none
def Mem.new (M:Mem) (cs:List Value):Mem:=⟨(M.put M.nx (.cells cs.length (wr .e 0 cs))).bs,M.nx+1⟩
def Mem.newB (M:Mem) (x:Blk):Mem:=⟨(M.put M.nx x).bs,M.nx+1⟩
def Mem.st (M:Mem) (b o:Nat) (vs:List Value):Option Mem :=
 match M.bs.get b with
 | some (.cells n t)=>match Nat.ble (o+vs.length) n with
  | true=>some (M.put b (.cells n (wr t o vs)))
  | false=>none
 | _=>none
def zrep (z:List Value) (k:Nat):List Value:=(List.replicate k z).flatten
def byOf (P : Program) (t : TypeId) : Option Nat:=(P.info? t).map (·.bytes)
def evAppend (P:Program) (M:Mem) (t:TypeId) (s x:Value):Option (Value×Mem) :=
 match P.underlying t with
 | some (.slice e)=>match szOf P e,byOf P e,zeroOf P e with
  | some z,some y,some zs=>match Nat.beq zs.length z && Nat.blt 0 z with
   | true=>match s,x with
    | .slice p n c,.slice none 0 0=>match Nat.ble n c with
     | true=>some (.slice p n c,M)
     | false=>none
    | .slice p n c,.slice (some ⟨bx,ox,none⟩) m _=>match Nat.beq m 0 with
     | true=>match Nat.ble n c with
      | true=>some (.slice p n c,M)
      | false=>none
     | false=>match M.ld bx ox (m*z),Nat.ble ((n+m)*y) 140737488355328 && Nat.ble (n+m) maxLen with
      | some news,true=>match p with
       | none=>match Nat.beq n 0 && Nat.beq c 0 with
        | true=>some (.slice (some ⟨M.nx,0,none⟩) m (UNK+z),M.new news)
        | false=>none
       | some ⟨b,o,none⟩=>match Nat.blt c UNK with
        | true=>match Nat.ble (n+m) c with
         | true=>match M.st b (o+n*z) news with
          | some M'=>some (.slice (some ⟨b,o,none⟩) (n+m) c,M')
          | none=>none
         | false=>match M.ld b o (n*z) with
          | some olds=>some (.slice (some ⟨M.nx,0,none⟩) (n+m) (UNK+z),M.new (olds++news))
          | none=>none
        | false=>match Nat.beq c (UNK+z) with
         | true=>match Nat.ble (o+(n+m)*z) (known M b) with
          | true=>match M.st b (o+n*z) news with
           | some M'=>some (.slice (some ⟨b,o,none⟩) (n+m) c,M')
           | none=>none
          | false=>match M.ld b o (n*z),M.bs.get b with
           | some olds,some (.cells _ _)=>some (.slice (some ⟨M.nx,0,none⟩) (n+m) (UNK+z),(M.put b .dead).new (olds++news))
           | _,_=>none
         | false=>none
       | _=>none
      | _,_=>none
    | _,_=>none
   | false=>none
  | _,_,_=>none
 | _=>none
def evCopy (P:Program) (M:Mem) (t:TypeId) (d x:Value):Option (Value×Mem) :=
 match P.underlying t with
 | some (.slice e)=>match szOf P e,d,x with
  | some z,.slice p n _,.slice q m _=>match Nat.min m n with
   | 0=>some (goInt 0,M)
   | k+1=>match p,q with
    | some ⟨b,o,none⟩,some ⟨b',o',none⟩=>match M.ld b' o' ((k+1)*z) with
     | some cs=>match M.st b o cs with
      | some M'=>some (goInt (k+1:Nat),M')
      | none=>none
     | none=>none
    | _,_=>none
  | _,_,_=>none
 | _=>none
def evClear (P:Program) (M:Mem) (t:TypeId) (x:Value):Option (Value×Mem) :=
 match P.underlying t,x with
 | some (.slice e),.slice p n _=>match n with
  | 0=>some (.tuple #[],M)
  | _=>match p,zeroOf P e with
   | some ⟨b,o,none⟩,some z=>match M.st b o (zrep z n),Nat.blt 0 z.length with
    | some M',true=>some (.tuple #[],M')
    | _,_=>none
   | _,_=>none
 | _,_=>none
def evDelete (P:Program) (M:Mem) (t:TypeId) (m k:Value):Option (Value×Mem) :=
 match P.underlying t,m,pl k with
 | some (.map kt _),.map (some b),true=>match M.bs.get b with
  | some (.mp es c)=>match prun P 100 (Instr.checkKey es.isEmpty 10000 kt k),prun P 1000 (Instr.findKey kt k es.toList) with
   | some _,some (some (i,_))=>some (.tuple #[],M.put b (.mp (es.eraseIdxIfInBounds i) c))
   | some _,some none=>some (.tuple #[],M.put b (.mp es c))
   | _,_=>none
  | _=>none
 | _,_,_=>none
def evMapUpdate (P:Program) (M:Mem) (t:TypeId) (m k x:Value):Option (Value×Mem) :=
 match P.underlying t,m,pl k && pl x with
 | some (.map kt _),.map (some b),true=>match M.bs.get b with
  | some (.mp es c)=>match prun P 100 (Instr.checkKey false 10000 kt k),prun P 1000 (Instr.findKey kt k es.toList) with
   | some _,some (some (i,_))=>match Instr.sameBits 10000 (((es[i]?).map (·.key)).getD k) k with
    | true=>some (undef,M.put b (.mp (es.modify i fun e=>{ e with key:=k,val:=x }) c))
    | false=>none
   | some _,some none=>some (undef,M.put b (.mp (es.push { key:=k,val:=x,born:=c }) (c+1)))
   | _,_=>none
  | _=>none
 | _,_,_=>none
def evNext (M:Mem) (r:Nat):Option (Value×Mem) :=
 match M.bs.get r with
 | some (.it m since seen last)=>match M.bs.get m with
  | some (.mp es c)=>match !seen.isEmpty && !es.isEmpty && es.all (·.born ≥ last) with
   | true=>none
   | false =>
    let left:=es.filter fun e=>!seen.contains e.born
    match (left.filter (·.born < since)).toList,(left.filter (·.born ≥ since)).toList with
    | [],[]=>some (.tuple #[.bool false],M)
    | [e],[]=>match pl e.key && pl e.val with
     | true=>some (.tuple #[.bool true,e.key,e.val],M.put r (.it m since (seen.push e.born) c))
     | false=>none
    | _,_=>none
  | _=>none
 | _=>none
def eAlloc (P:Program) (M:Mem) (t:TypeId):Option (Value×Mem) :=
 match zeroOf P t with
 | some z=>some (ptrV M.nx 0,M.new z)
 | none=>none
def eBox (ev:Operand→Option Value) (M:Mem) (x:Operand):Option (Value×Mem) :=
 match ev x with
 | some v=>match cellsOf v with
  | some cs=>some (ptrV M.nx 0,M.new cs)
  | none=>none
 | none=>none
def eBS (P:Program) (ev:Operand→Option Value) (M:Mem) (t:TypeId) (len:Nat) (parts:Array (Nat×Operand)):Option (Value×Mem) :=
 match P.underlying t with
 | some (.slice e)=>match szOf P e,zeroOf P e,evParts ev parts.toList with
  | some z,some zs,some ps=>match Nat.beq zs.length z && Nat.blt 0 z && Nat.ble (len*z) 16777216 with
   | true=>match evFill (fun i=>some (i*z,z)) (zrep zs len) ps with
    | some cs=>some (.slice (some ⟨M.nx,0,none⟩) len len,M.new cs)
    | none=>none
   | false=>none
  | _,_,_=>none
 | _=>none
def eMS (P:Program) (ev:Operand→Option Value) (M:Mem) (t:TypeId) (l c:Operand):Option (Value×Mem) :=
 match P.underlying t,ev l,ev c with
 | some (.slice e),some (.int _ (.ofNat n)),some (.int _ (.ofNat k))=>match szOf P e,zeroOf P e,byOf P e with
  | some z,some zs,some y=>match Nat.beq zs.length z && Nat.blt 0 z && Nat.ble n k && Nat.ble (y*k) 281474976710656 && Nat.ble k 9223372036854775807 && Nat.blt k UNK with
   | true=>some (.slice (some ⟨M.nx,0,none⟩) n k,M.new (zrep zs k))
   | false=>none
  | _,_,_=>none
 | _,_,_=>none
def eStore (P:Program) (ev:Operand→Option Value) (M:Mem) (t:TypeId) (x y:Operand):Option (Value×Mem) :=
 match ev x,ev y,szOf P t with
 | some (.pointer (some ⟨b,off,none⟩)),some v,some n=>match cellsOf v with
  | some cs=>match Nat.beq cs.length n,M.st b off cs with
   | true,some M'=>some (undef,M')
   | _,_=>none
  | none=>none
 | _,_,_=>none
def eMU (P:Program) (ev:Operand→Option Value) (M:Mem) (t:TypeId) (m k x:Operand):Option (Value×Mem) :=
 match ev m,ev k,ev x with
 | some m,some k,some x=>evMapUpdate P M t m k x
 | _,_,_=>none
def eRange (P:Program) (ev:Operand→Option Value) (M:Mem) (t:TypeId) (x:Operand):Option (Value×Mem) :=
 match P.underlying t,ev x with
 | some (.map _ _),some (.map (some b))=>match M.bs.get b with
  | some (.mp es c)=>some (ptrV M.nx 0,M.newB (.it b c #[] c))
  | _=>none
 | _,_=>none
def eNext (ev:Operand→Option Value) (M:Mem) (x:Operand):Option (Value×Mem) :=
 match ev x with
 | some (.pointer (some ⟨r,0,none⟩))=>evNext M r
 | _=>none
def eBW (P:Program) (ev:Operand→Option Value) (M:Mem) (c:Call):Option (Value×Mem) :=
 match c.callee with
 | .builtin b=>match c.argTypes.toList,evAll ev c.args.toList with
  | t::ts,some l=>match b,ts,l with
   | .append,[t'],[s,x]=>match Nat.beq t t' with
    | true=>evAppend P M t s x
    | false=>none
   | .copy,_,[d,x]=>evCopy P M t d x
   | .clear,_,[x]=>evClear P M t x
   | .delete,_,[m,k]=>evDelete P M t m k
   | _,_,_=>none
  | _,_=>none
 | _=>none
def evW (P:Program) (ev:Operand→Option Value) (M:Mem) (o:Oper):Option (Value×Mem) :=
 match o.op with
 | .alloc t=>eAlloc P M t
 | .box t x=>eBox ev M x
 | .buildSlice t len parts=>eBS P ev M t len parts
 | .makeSlice t l c=>eMS P ev M t l c
 | .store t x y=>eStore P ev M t x y
 | .makeMap t none=>some (.map (some M.nx),M.newB (.mp #[] 0))
 | .mapUpdate t m k x=>eMU P ev M t m k x
 | .range t x=>eRange P ev M t x
 | .next x false=>eNext ev M x
 | .call c=>eBW P ev M c
 | _=>none
end
noncomputable section
section
variable {P:Program} {ρ:Rho} {ev:Operand→Option Value} {ρe:Operand→Value} {w0 w:World} {M:Mem}
inductive Is:Option Value→Option Nat→Prop
 | none:Is none none
 | some (k:IntKind) (n:Nat):Is (some (.int k n)) (some n)
theorem evBound_is (he:∀ x u,ev x=some u→VR ρ u (ρe x)) {x:Option Operand} {n:Option Nat} (h:evBound ev x=some n):Is (x.map ρe) n:=by
 unfold evBound at h
 split at h
 ·cases h;exact .none
 ·split at h
  ·rename_i k n e
   cases h
   have:=(he _ _ e).int_inv;simp only [Option.map_some,this];exact .some k n
  ·cases h
theorem sb (k:IntKind) {n y:Nat} (code:BoundsCode) (h:n≤y) (w:World):(Instr.sliceBound (.int k (n:Int)) y code).run P w=.ok n w:=by
 have:=run_sliceBound (P:=P) w k (n:Int) y code (Int.natCast_nonneg n) (by omega)
 simpa using this
theorem run_bounds {isS:Bool} {len cap:Nat} {lo hi mx:Option Value} {l h m:Option Nat} (h1:Is lo l) (h2:Is hi h) (h3:Is mx m) (k1:l.getD 0≤h.getD len) (k2:h.getD len≤m.getD cap) (k3:m.getD cap≤cap) (k4:m.isSome=true→h.isSome=true) (w:World) :
  (Instr.sliceBounds isS len cap lo hi mx).run P w=.ok (l.getD 0,h.getD len,m.getD cap) w:=by
 cases h3 with
 | none =>
  cases h2 with
  | none =>
   cases h1 with
   | none=>simp [Instr.sliceBounds]
   | some k n=>simp [Instr.sliceBounds,sb (P:=P) k _ (show n≤len from k1)]
  | some k' n' =>
   cases h1 with
   | none=>simp [Instr.sliceBounds,sb (P:=P) k' _ (show n'≤cap from k2)]
   | some k n=>simp [Instr.sliceBounds,sb (P:=P) k' _ (show n'≤cap from k2),sb (P:=P) k _ (show n≤n' from k1)]
 | some k'' n'' =>
  cases h2 with
  | none=>simp at k4
  | some k' n' =>
   cases h1 with
   | none=>simp [Instr.sliceBounds,sb (P:=P) k'' _ (show n''≤cap from k3),sb (P:=P) k' _ (show n'≤n'' from k2)]
   | some k n=>simp [Instr.sliceBounds,sb (P:=P) k'' _ (show n''≤cap from k3),sb (P:=P) k' _ (show n'≤n'' from k2),sb (P:=P) k _ (show n≤n' from k1)]
def cut (a:Addr) (z n c l:Nat) (h m:Option Nat):Value:=.slice (some (if m.getD c=l then a else a.add (l*z))) (h.getD n-l) (m.getD c-l)
theorem known_le (hM:MR w0 ρ M w) {b B O N:Nat} (hb:ρ b=some (B,O,N)):known M b≤N:=by
 unfold known
 split
 ·rename_i n t hm
  exact (hM.cel _ _ _ _ _ _ hm hb).1
 ·omega
theorem blt_lt {a b:Nat} (h:Nat.blt a b=true):a<b:=by simp [Nat.blt] at h;omega
theorem evSlice_run (hM:MR w0 ρ M w) {b o n c z l:Nat} {h m:Option Nat} {v:Value} (hv:evSlice M b o n c z l h m=some v) {x':Value} (hx:SR ρ (.slice (some ⟨b,o,none⟩) n c) x') :
  ∃ a c',x'=.slice (some a) n c'∧SR ρ v (cut a z n c' l h m)∧l≤h.getD n∧h.getD n≤m.getD c'∧m.getD c'≤c'∧(m.isSome=true→h.isSome=true):=by
 unfold evSlice at hv
 split at hv
 ·rename_i m
  split at hv
  ·cases hv
  ·rename_i h
   have fin:∀ (B O N c':Nat),ρ b=some (B,O,N)→m<UNK→SR ρ (.slice (some ⟨b,cond (Nat.beq m l) o (o+l*z),none⟩) (h-l) (m-l)) (cut ⟨B,O+o,none⟩ z n c' l (some h) (some m)):=fun B O N c' e h4=>by
    unfold cut;simp only [Option.getD_some]
    by_cases hml:m=l
    ·subst hml;rw [if_pos rfl,show Nat.beq m m=true from Nat.beq_refl m];exact .sl e (by omega)
    ·rw [if_neg hml,show Nat.beq m l=false by rw [Bool.eq_false_iff];intro a;exact hml (Nat.eq_of_beq_eq_true a),Addr.add_lit,Nat.add_assoc];exact .sl e (by omega)
   split at hv
   ·rename_i hb he
    simp only [Bool.and_eq_true] at hb;obtain ⟨⟨h1,h2⟩,h4⟩:=hb;have h1:=Nat.le_of_ble_eq_true h1;have h2:=Nat.le_of_ble_eq_true h2;have h4:=blt_lt h4;have he:=blt_lt he
    split at hv
    ·rename_i h3
     cases hv
     have h3:=Nat.le_of_ble_eq_true h3
     cases hx with
     | sl e2 hc=>exact ⟨_,_,rfl,fin _ _ _ _ e2 h4,h1,h2,h3,fun _=>rfl⟩
     | su=>unfold UNK at he;omega
     | s0=>unfold UNK at he;omega
    ·cases hv
   ·rename_i hb he
    simp only [Bool.and_eq_true] at hb;obtain ⟨⟨h1,h2⟩,h4⟩:=hb;have h1:=Nat.le_of_ble_eq_true h1;have h2:=Nat.le_of_ble_eq_true h2;have h4:=blt_lt h4
    split at hv
    ·rename_i h3
     cases hv
     simp only [Bool.and_eq_true] at h3;obtain ⟨⟨h3,h5⟩,h6⟩:=h3;have h3:=Nat.le_of_ble_eq_true h3;have h5:=Nat.eq_of_beq_eq_true h5;have h6:=blt_lt h6
     cases hx with
     | sl e2 hc=>unfold UNK at hc h5;omega
     | su e2 hz hn ht hm=>exact ⟨_,_,rfl,fin _ _ _ _ e2 h4,h1,h2,by simp only [Option.getD_some];omega,fun _=>rfl⟩
     | s0=>unfold UNK at h5;omega
    ·cases hv
   ·cases hv
 ·split at hv
  ·rename_i he
   have he:=blt_lt he
   split at hv
   ·rename_i hb
    cases hv
    simp only [Bool.and_eq_true] at hb;have h1:=Nat.le_of_ble_eq_true hb.1;have h2:=Nat.le_of_ble_eq_true hb.2
    cases hx with
    | sl e2 hc =>
     refine ⟨_,_,rfl,?_,h1,h2,Nat.le_refl _,by simp⟩;unfold cut;simp only [Option.getD_none]
     by_cases hml:c=l
     ·subst hml;rw [if_pos rfl,show Nat.beq c c=true from Nat.beq_refl c];exact .sl e2 (by omega)
     ·rw [if_neg hml,show Nat.beq c l=false by rw [Bool.eq_false_iff];intro a;exact hml (Nat.eq_of_beq_eq_true a),Addr.add_lit,Nat.add_assoc];exact .sl e2 (by omega)
    | su=>unfold UNK at he;omega
    | s0=>unfold UNK at he;omega
   ·cases hv
  ·rename_i he
   split at hv
   ·rename_i hb
    simp only [Bool.and_eq_true,Bool.or_eq_true] at hb;obtain ⟨⟨⟨h5,h6⟩,h1⟩,h3⟩:=hb;have h5:=Nat.eq_of_beq_eq_true h5;have h6:=blt_lt h6;have h1:=Nat.le_of_ble_eq_true h1
    cases hx with
    | sl e2 hc=>unfold UNK at hc h5;omega
    | s0=>unfold UNK at h5;omega
    | @su _ _ _ z' c' B O N e2 hz hn ht hm =>
     have hzz:z'=z:=by omega
     subst hzz;have hle:h.getD n≤c':=by
      rcases h3 with h3 | h3
      ·have:=Nat.le_of_ble_eq_true h3;omega
      ·have h3:=Nat.le_of_ble_eq_true h3;have:=known_le hM e2;have h7:h.getD n*z'≤c'*z':=by omega
       exact Nat.le_of_mul_le_mul_right h7 h6
     refine ⟨_,_,rfl,?_,h1,hle,Nat.le_refl _,by simp⟩;unfold cut;simp only [Option.getD_none]
     split at hv
     ·rename_i hq
      rw [Bool.and_eq_true] at hq;have hq:=Nat.eq_of_beq_eq_true hq.1
      cases hv
      rw [show h.getD n-l=0 by omega];exact .s0
     ·rename_i hq
      cases hv
      have hlt:l=0∨l<h.getD n:=by
       rcases Nat.lt_or_ge l (h.getD n) with g | g
       ·exact .inr g
       ·have e1:l=h.getD n:=by omega
        rcases Nat.eq_zero_or_pos l with g0 | g0
        ·exact .inl g0
        ·rw [← e1,show Nat.beq l l=true from Nat.beq_refl _,show Nat.blt 0 l=true by simp [Nat.blt];omega] at hq
         cases hq
      have ea:(if c'=l then (⟨B,O+o,none⟩:Addr) else (⟨B,O+o,none⟩:Addr).add (l*z'))=⟨B,O+(o+l*z'),none⟩:=by
       rcases hlt with rfl | hlt
       ·split<;>simp [Addr.add]
       ·rw [if_neg (by omega),Addr.add_lit,Nat.add_assoc]
      rw [ea];refine .su e2 hz (by omega) ?_ (by omega);rw [← ht,Nat.add_assoc,← Nat.add_mul]
      congr 2;omega
   ·cases hv
theorem evR_run (hM:MR w0 ρ M w) {o:Oper} {v:Value} (he:∀ x u,ev x=some u→VR ρ u (ρe x)) (h:evR P ev M o=some v):∃ v',VR ρ v v'∧(execOp ρe o).run P w=.ok (.value v') w:=by
 obtain ⟨dst,op,type,pos,after,guard⟩:=o;unfold evR at h;dsimp only at h
 split at h
 ·rename_i t x
  unfold eLoad at h
  split at h
  ·rename_i b off hx
   obtain ⟨B,O,N,e1,e2⟩:=(he _ _ hx).ptr_inv
   split at h
   ·rename_i n ha hs
    split at h
    ·rename_i l hl
     cases h
     obtain ⟨l',a1,a2,a3⟩:=hM.ld hl e1;refine ⟨.agg l'.toArray,.one (.agg (by simpa using a1)),?_⟩;have hr:=run_loadCells_list (P:=P) w ⟨B,O+off,none⟩ l' (fun j v e=>by rw [Addr.add_lit];exact a3 j v e);rw [a2] at hr;simp only [execOp,e2];simp [Instr.loadAt,Instr.sureAddr,loadVar,run_isAggT ha,run_szOf hs,hr]
    ·cases h
   ·rename_i ha
    split at h
    ·rename_i u hl
     cases h
     obtain ⟨l',a1,a2,a3⟩:=hM.ld hl e1
     cases a1 with
     | @cons _ v' _ _ r t' =>
      have:=a3 0 v' rfl;refine ⟨v',.one (.sc r),?_⟩;simp only [execOp,e2];simp only [Nat.add_zero] at this;simp [Instr.loadAt,Instr.sureAddr,loadVar,run_isAggT ha,this]
    ·cases h
   ·cases h
  ·cases h
 ·rename_i t x lo hi mx
  unfold eSlice at h
  split at h
  ·rename_i l hh m h1 h2 h3
   have i1:=evBound_is he h1;have i2:=evBound_is he h2;have i3:=evBound_is he h3
   split at h
   ·rename_i e b off n c hu hx
    split at h
    ·rename_i z hz
     have hx':=he _ _ hx
     cases hc:ρe x with
     | slice p n' c' =>
      rw [hc] at hx';have hs:SR ρ (.slice (some ⟨b,off,none⟩) n c) (.slice p n' c'):=by
       cases hx' with
       | one r=>cases r with
        | sc r=>exact r
      obtain ⟨a,c'',e1,e2,k1,k2,k3,k4⟩:=evSlice_run hM h hs
      injection e1 with e3 e4 e5
      subst e3 e4 e5;refine ⟨_,.one (.sc e2),?_⟩;have hb:=run_bounds (P:=P) (isS:=true) (len:=n') (cap:=c') i1 i2 i3 k1 k2 k3 k4 w;simp only [execOp,hc];simp [Instr.sliceAt,Instr.slice,run_underlying hu,hb,run_szOf hz,cut]
      split<;>rfl
     | _=>rw [hc] at hx';obtain ⟨_,_,q,_⟩:=hx'.sl_len;cases q
    ·cases h
   ·rename_i e hu hx
    split at h
    ·rename_i z hb hz
     cases h
     simp only [Bool.and_eq_true] at hb;obtain ⟨⟨⟨b1,b2⟩,b3⟩,b4⟩:=hb;have b1:=Nat.eq_of_beq_eq_true b1;have b2:=Nat.eq_of_beq_eq_true b2;have b3:=Nat.eq_of_beq_eq_true b3;have hx':=(he _ _ hx).eq1 rfl;have hb:=run_bounds (P:=P) (isS:=true) (len:=0) (cap:=0) i1 i2 i3 (by omega) (by omega) (by omega) (fun q=>by cases m with
      | none=>cases q
      | some _=>simpa using b4) w
     refine ⟨_,.one (.sc .snil),?_⟩;simp only [execOp,hx'];simp [Instr.sliceAt,Instr.slice,run_underlying hu,hb,run_szOf hz,b1,b2,b3]
    ·cases h
   ·rename_i n e b off hu hx
    split at h
    ·rename_i z hz
     split at h
     ·rename_i hn
      obtain ⟨B,O,N,e1,e2⟩:=(he _ _ hx).ptr_inv;obtain ⟨a,c'',e1',e2',k1,k2,k3,k4⟩:=evSlice_run hM h (SR.sl (o:=off) (n:=n) e1 (blt_lt hn))
      injection e1' with e3 e4 e5
      simp only [Option.some.injEq] at e3;subst e3 e5;refine ⟨_,.one (.sc e2'),?_⟩;have hb:=run_bounds (P:=P) (isS:=false) (len:=n) (cap:=n) i1 i2 i3 k1 k2 k3 k4 w;simp only [execOp,e2];simp [Instr.sliceAt,Instr.sureAddr,run_underlying hu,hb,run_szOf hz,cut]
     ·cases h
    ·cases h
   ·cases h
  ·cases h
 ·rename_i x
  unfold eEntry at h
  split at h
  ·rename_i r hx
   obtain ⟨B,O,N,e1,e2⟩:=(he _ _ hx).ptr_inv
   split at h
   ·rename_i m s seen p hm
    obtain ⟨_,rfl,mB,mO,mN,d1,d2⟩:=hM.it _ _ _ _ _ _ _ _ hm e1
    split at h
    ·rename_i st es c hs hmm
     obtain ⟨_,_,d3⟩:=hM.mp _ _ _ _ _ _ hmm d1
     split at h
     ·rename_i e hq hf
      have hq:=Nat.eq_of_beq_eq_true hq;subst hq
      split at h
      ·rename_i hp
       cases h
       obtain ⟨p1,p2⟩:=pl_and hp;refine ⟨_,.tup (.cons (V1.refl1 p1) (.cons (V1.refl1 p2) .nil)),?_⟩;simp only [execOp,e2,Nat.zero_add];simp [Instr.entry,getObj,Sem.run,d2,d3,hs,hf]
      ·cases h
     ·cases h
    ·cases h
   ·cases h
  ·cases h
 ·cases h
end
end
noncomputable section
section
variable {P:Program} {ρ:Rho} {ev:Operand→Option Value} {ρe:Operand→Value} {w0 w:World} {M:Mem}
theorem Grow.put {b:Nat} {x:Blk} {y:Nat×Nat×Nat} (h:ρ b=some y):Grow ρ M ρ (M.put b x) :=
 ⟨fun _ _=>rfl,Nat.le_refl _,fun j z _ e g=>by
  rcases Mem.get_put g with ⟨rfl,_⟩ | ⟨_,g⟩
  ·rw [h] at e;cases e
  ·exact g⟩
theorem Grow.newB (h:MR w0 ρ M w) {x:Blk} {y:Nat×Nat×Nat}:Grow ρ M (upd ρ M.nx y) (M.newB x) :=
 ⟨fun b hb=>by unfold upd;rw [if_neg (by omega)],Nat.le_succ _,fun j z hj e g=>by
  rcases Mem.get_put g with ⟨rfl,_⟩ | ⟨_,g⟩
  ·omega
  ·exact g⟩
theorem MR.newCells (h:MR w0 ρ M w) {cs:List Value} {c:Array Value} (ty:TypeId) (hc:cs.length≤c.size) (hr:∀ (j:Nat) (v:Value),cs[j]?=some v→∃ v',c[j]?=some v'∧SR ρ v v') :
  MR w0 (upd ρ M.nx (w.heap.size,0,c.size)) (M.new cs) (w.alloc (.cells c ty)):=by
 have hz:ρ M.nx=none:=h.fresh _ (Nat.le_refl _);have h1:MR w0 ρ (M.new cs) w:=(h.hole hz (.cells cs.length (wr .e 0 cs))).raise (Nat.le_succ _);refine h1.fill hz (Nat.lt_succ_self _) c ty fun y hy=>?_
 rcases Mem.get_put hy with ⟨_,e⟩ | ⟨e,_⟩
 ·refine ⟨_,_,e,hc,fun j v _ hv=>?_⟩
  rcases get_wr _ _ _ _ _ hv with ⟨i,e1,e2⟩ | ⟨_,e2⟩
  ·rw [Nat.zero_add] at e1;subst e1;exact hr _ _ e2
  ·rw [T.get_e] at e2;cases e2
 ·exact absurd rfl e
theorem MR.newLR (h:MR w0 ρ M w) {cs:List Value} {c:Array Value} (ty:TypeId) (hr:LR (SR ρ) cs c.toList) :
  MR w0 (upd ρ M.nx (w.heap.size,0,c.size)) (M.new cs) (w.alloc (.cells c ty)) :=
 h.newCells ty (by have:=hr.len;simp at this;omega) fun j v e=>by
  obtain ⟨v',e1,e2⟩:=hr.get e;exact ⟨v',by simpa using e1,e2⟩
theorem MR.st (h:MR w0 ρ M w) {b o B O N:Nat} {vs vs':List Value} {M':Mem} (hs:M.st b o vs=some M') (hb:ρ b=some (B,O,N)) (hv:LR (SR ρ) vs vs') :
  MR w0 ρ M' (w.setCells B (O+o) vs')∧(∀ j,j<vs'.length→(w.cell? ⟨B,O+o+j,none⟩).isSome=true)∧(∀ j,j<vs'.length→w.frozen? ⟨B,O+o+j,none⟩=false)∧(∀ v∈vs',v.oneCell'=true)∧Grow ρ M ρ M':=by
 unfold Mem.st at hs
 split at hs
 ·rename_i n t hm
  split at hs
  ·rename_i hle
   cases hs
   obtain ⟨a,b',c,d⟩:=h.sets hm hb hv (Nat.le_of_ble_eq_true hle);exact ⟨a,b',c,d,Grow.put hb⟩
  ·cases hs
 ·cases hs
theorem len_zrep (z:List Value):∀ k,(zrep z k).length=k*z.length
 | 0=>by simp [zrep]
 | k+1=>by
  have:=len_zrep z k;unfold zrep at *;rw [List.replicate_succ,List.flatten_cons,List.length_append,this,Nat.add_mul];omega
theorem get_zrep (z:List Value):∀ k j,j<k*z.length→(zrep z k)[j]?=z[j%z.length]?
 | 0,j,h=>by simp at h
 | k+1,j,h=>by
  have ih:=get_zrep z k;have e:zrep z (k+1)=z++zrep z k:=by unfold zrep;rw [List.replicate_succ,List.flatten_cons]
  rw [e]
  by_cases hj:j<z.length
  ·rw [List.getElem?_append_left hj,Nat.mod_eq_of_lt hj]
  ·rw [Nat.add_mul,Nat.one_mul] at h;rw [List.getElem?_append_right (by omega),ih _ (by omega),Nat.mod_eq_sub_mod (a:=j) (by omega)]
theorem zrep_map {z : Array Value} {n : Nat} {k : Nat} (hn : n = k * z.size) (hz : 0 < z.size) : ((Array.range n).map (z[· % z.size]!)).toList = zrep z.toList k:=by
 apply List.ext_getElem?;intro j
 by_cases hj:j<n
 ·rw [get_zrep _ _ _ (by simp;omega)];have h2:j%z.size<z.size:=Nat.mod_lt _ hz;simp [hj,h2]
 ·rw [List.getElem?_eq_none (by simp;omega),List.getElem?_eq_none (by rw [len_zrep];simp;omega)]
theorem zrep_LR {z:List Value} (h:all1 z=true) (k:Nat):LR (SR ρ) (zrep z k) (zrep z k):=by
 refine LR.refl fun a ha=>SR.refl1 ?_;unfold zrep at ha;rw [List.mem_flatten] at ha;obtain ⟨l,h1,h2⟩:=ha;rw [(List.mem_replicate.1 h1).2] at h2;exact all1_mem h a h2
theorem szBy {t:TypeId} {i:TypeInfo} {z y:Nat} (hi:P.info? t=some i) (h1:szOf P t=some z) (h2:byOf P t=some y):i.size=z∧i.bytes=y:=by
 unfold szOf at h1;unfold byOf at h2;rw [hi] at h1 h2
 simpa using And.intro h1 h2
def Gives (P:Program) (s:Sem Next) (w:World) (v':Value) (w':World):Prop:=s.run P w=.ok (.value v') w'∨(s.run P w=.ok .skip w'∧v'=undef)
def GoesOn (w0:World) (ρ:Rho) (M:Mem) (v:Value) (M':Mem) (K:Value→World→Prop):Prop:=∃ ρ' v' w',K v' w'∧Grow ρ M ρ' M'∧MR w0 ρ' M' w'∧VR ρ' v v'
theorem GoesOn.mono {K K':Value→World→Prop} {v:Value} {M':Mem} (h:GoesOn w0 ρ M v M' K) (k:∀ v' w',K v' w'→K' v' w'):GoesOn w0 ρ M v M' K':=by
 obtain ⟨ρ',v',w',a,b⟩:=h;exact ⟨ρ',v',w',k _ _ a,b⟩
theorem SR.of_sl {p:Option Addr} {n c:Nat} {b:Value} (h:VR ρ (.slice p n c) b):SR ρ (.slice p n c) b:=by
 cases h with
 | one r=>cases r with
  | sc r=>exact r
theorem zeroCells_list {z:Array Value} {k:Nat} (hz:0<z.size):(Builtin.zeroCells z k).toList=zrep z.toList k:=by
 unfold Builtin.zeroCells;exact zrep_map rfl hz
theorem size_zc (z:Array Value) (k:Nat):(Builtin.zeroCells z k).size=k*z.size:=by simp [Builtin.zeroCells]
theorem grown_size {a b g z p:Nat} (hp:p=(g-(a+b))*z) (hg:a+b≤g):a*z+b*z+p=g*z:=by
 rw [hp,← Nat.add_mul,← Nat.add_mul];congr 1;omega
theorem append_zero {t ty e:TypeId} {i:TypeInfo} (ht:P.underlying t=some (.slice e)) (hi:P.info? e=some i) {p q:Option Addr} {n c k:Nat} (hc:n≤c):(Builtin.append_ #[t,t] ty #[.slice p n c,.slice q 0 k]).run P w=.ok (.slice p n c) w:=by
 cases p<;>cases q<;>simp [Builtin.append_,run_underlying ht,sizeOf,typeInfo,hi,Builtin.lenOf,Builtin.firstCells,loadCells,loadCellsFrom,hc,storeCells]
theorem evAppend_run (hM:MR w0 ρ M w) {t ty:TypeId} {s x s' x' v:Value} {M':Mem} (hs:VR ρ s s') (hx:VR ρ x x') (h:evAppend P M t s x=some (v,M')) :
  GoesOn w0 ρ M v M' fun v' w'=>(Builtin.append_ #[t,t] ty #[s',x']).run P w=.ok v' w':=by
 unfold evAppend at h
 split at h
 ·rename_i e ht
  split at h
  ·rename_i z y zs hz hy hzs
   split at h
   ·rename_i hq
    simp only [Bool.and_eq_true] at hq;have hq1:=Nat.eq_of_beq_eq_true hq.1;have hq2:=blt_lt hq.2;obtain ⟨yzv,z1,z2,yz3,yz4,i,hi,hzi⟩:=zeroOf_run (ρ:=ρ) hzs;obtain ⟨i1,i2⟩:=szBy hi hz hy;have hzsz:yzv.cells.size=z:=by rw [← hq1,← z1];simp
    split at h
    ·rename_i p n c
     split at h
     ·rename_i hnc
      cases h
      have hnc:=Nat.le_of_ble_eq_true hnc;have hx':=hx.eq1 rfl;subst hx';have hs':=SR.of_sl hs;have:∃ p' c',s'=.slice p' n c'∧n≤c':=by
       cases hs' with
       | snil=>exact ⟨_,_,rfl,by omega⟩
       | sl=>exact ⟨_,_,rfl,by omega⟩
       | su _ _ hn _ _=>exact ⟨_,_,rfl,hn⟩
       | s0=>exact ⟨_,_,rfl,by omega⟩
      obtain ⟨p',c',rfl,hc'⟩:=this;exact ⟨ρ,_,w,append_zero ht hi hc',Grow.refl _ _,hM,hs⟩
     ·cases h
    ·rename_i p n c bx ox m cx
     split at h
     ·rename_i hm
      have hm:=Nat.eq_of_beq_eq_true hm;subst hm
      split at h
      ·rename_i hnc
       cases h
       have hnc:=Nat.le_of_ble_eq_true hnc;obtain ⟨q',k',rfl,_⟩:=hx.sl_len;have hs':=SR.of_sl hs;have:∃ p' c',s'=.slice p' n c'∧n≤c':=by
        cases hs' with
        | snil=>exact ⟨_,_,rfl,by omega⟩
        | sl=>exact ⟨_,_,rfl,by omega⟩
        | su _ _ hn _ _=>exact ⟨_,_,rfl,hn⟩
        | s0=>exact ⟨_,_,rfl,by omega⟩
       obtain ⟨p',c',rfl,hc'⟩:=this;exact ⟨ρ,_,w,append_zero ht hi hc',Grow.refl _ _,hM,hs⟩
      ·cases h
     ·rename_i hm
      have hm0:0<m:=by
       rcases Nat.eq_zero_or_pos m with g | g
       ·subst g;cases hm
       ·exact g
      split at h
      ·rename_i news hld hb
       simp only [Bool.and_eq_true] at hb;have hb1:=Nat.le_of_ble_eq_true hb.1;have hb2:=Nat.le_of_ble_eq_true hb.2;obtain ⟨BX,OX,NX,cx',ex,rfl⟩:=hx.sl_inv hm0;obtain ⟨news',n1,n2,n3⟩:=hM.ld hld ex;have n4:∀ j u,news'[j]?=some u→w.cell? ((⟨BX,OX+ox,none⟩:Addr).add j)=some u:=fun j u e=>by rw [Addr.add_lit];exact n3 j u e
       have n5:∀ u∈news',u.oneCell'=true:=fun u hu=>by
        obtain ⟨k,hk,e⟩:=List.getElem_of_mem hu;have hk2:k<news.length:=by rw [n1.len];exact hk
        obtain ⟨u2,e1,e2⟩:=n1.get (List.getElem?_eq_getElem hk2);rw [List.getElem?_eq_getElem hk,e] at e1
        cases e1;exact e2.one
       have n6:news'.length=m*i.size:=by rw [n2,i1]
       have h63:((n+m:Nat):Int)≤9223372036854775807:=by simp only [maxLen] at hb2;omega
       have pad:∀ (olds news:List Value) (olds' news':List Value) (k:Nat),LR (SR ρ) olds olds'→LR (SR ρ) news news'→∀ (j:Nat) (v:Value),(olds++news)[j]?=some v→∃ v',(olds'.toArray++news'.toArray++Builtin.zeroCells yzv.cells k)[j]?=some v'∧SR ρ v v':=fun olds news olds' news' k l1 l2 j v hv=>by
        obtain ⟨v',e1,e2⟩:=(l1.append l2).get hv;refine ⟨v',?_,e2⟩;rw [← Array.getElem?_toList,Array.toList_append,Array.toList_append,List.getElem?_append_left (by have:=(List.getElem?_eq_some_iff.1 e1).1;simpa using this)]
        simpa using e1
       have mz:n*z+m*z=(n+m)*z:=(Nat.add_mul n m z).symm
       split at h
       ·split at h
        ·rename_i hn0
         cases h
         simp only [Bool.and_eq_true] at hn0;have hn1:=Nat.eq_of_beq_eq_true hn0.1;have hn2:=Nat.eq_of_beq_eq_true hn0.2;subst hn1 hn2;have hs':=hs.eq1 rfl;subst hs';have hr:=run_append_nil (P:=P) w t ty e i yzv ht hi hzi ⟨BX,OX+ox,none⟩ m cx' news' n6 n4 hm0 (by omega) (by rw [i2];simp only [Nat.zero_add] at hb1;omega);have hg:=grownCap_ge w m 0 e;have hcs:(#[].toList.toArray++news'.toArray++Builtin.zeroCells yzv.cells (grownCap w m 0 e-m)).size=grownCap w m 0 e*z:=by
          have:=grown_size (a:=0) (b:=m) (g:=grownCap w m 0 e) (z:=z) (p:=(Builtin.zeroCells yzv.cells (grownCap w m 0 e-m)).size) (by rw [size_zc,hzsz,Nat.zero_add]) (by omega);simp only [Array.size_append,List.size_toArray,n2] at this ⊢
          simpa using this
         have hm':=hM.drew.newCells (cs:=news) (c:=[].toArray++news'.toArray++Builtin.zeroCells yzv.cells (grownCap w m 0 e-m)) e (by rw [n1.len];simp) (fun j v hv=>pad [] news [] news' _ .nil n1 j v (by simpa using hv));have hm'':MR w0 (upd ρ M.nx (w.heap.size,0,(news'.toArray++Builtin.zeroCells yzv.cells (grownCap w m 0 e-m)).size)) (M.new news) (w.drew.alloc (.cells (news'.toArray++Builtin.zeroCells yzv.cells (grownCap w m 0 e-m)) e)):=by simpa using hm'
         refine ⟨_,_,_,hr,Grow.newB hM,hm'',?_⟩;refine .one (.sc (.su (B:=w.heap.size) (O:=0) (N:=grownCap w m 0 e*z) ?_ hq2 hg (by omega) (grownCap_le_maxLen w m 0 e (by omega))));unfold upd;rw [if_pos rfl];simp at hcs ⊢;exact hcs
        ·cases h
       ·rename_i b o
        have hs':=SR.of_sl hs
        split at h
        ·rename_i hcu
         have hcu:=blt_lt hcu;have:∃ B O N,ρ b=some (B,O,N)∧s'=.slice (some ⟨B,O+o,none⟩) n c:=by
          cases hs' with
          | sl e _=>exact ⟨_,_,_,e,rfl⟩
          | su=>unfold UNK at hcu;omega
          | s0=>unfold UNK at hcu;omega
         obtain ⟨B,O,N,eb,rfl⟩:=this
         split at h
         ·rename_i hnm
          have hnm:=Nat.le_of_ble_eq_true hnm
          split at h
          ·rename_i M'' hst
           cases h
           obtain ⟨a1,a2,a3,a4,a5⟩:=hM.st hst eb n1;have hr:=run_append_room_cells (P:=P) w t ty e i ht hi B (O+o) n c ⟨BX,OX+ox,none⟩ m cx' news' n6 n4 n5 hnm (by rw [i1,Nat.add_assoc];exact a2) (by rw [i1,Nat.add_assoc];exact a3);rw [i1,Nat.add_assoc] at hr;exact ⟨ρ,_,_,hr,a5,a1,.one (.sc (.sl eb hcu))⟩
          ·cases h
         ·rename_i hnm
          have hnm:c<n+m:=by
           refine Nat.lt_of_not_le fun g=>?_;rw [Nat.ble_eq_true_of_le g] at hnm;cases hnm
          split at h
          ·rename_i olds hld2
           cases h
           obtain ⟨olds',o1,o2,o3⟩:=hM.ld hld2 eb;have hr:=run_append_grow (P:=P) w t ty e i yzv ht hi hzi ⟨B,O+o,none⟩ n c olds' (by rw [o2,i1]) (fun j u e=>by rw [Addr.add_lit];exact o3 j u e) ⟨BX,OX+ox,none⟩ m cx' news' n6 n4 hnm h63 (growslice_fits (by omega) (by rw [i2];exact hb1));have hg:=grownCap_ge w (n+m) c e;have hcs:(olds'.toArray++news'.toArray++Builtin.zeroCells yzv.cells (grownCap w (n+m) c e-(n+m))).size=grownCap w (n+m) c e*z:=by
            have:=grown_size (a:=n) (b:=m) (g:=grownCap w (n+m) c e) (z:=z) (p:=(Builtin.zeroCells yzv.cells (grownCap w (n+m) c e-(n+m))).size) (by rw [size_zc,hzsz]) hg;simp only [Array.size_append,List.size_toArray,n2,o2] at this ⊢;exact this
           have hm':=hM.drew.newCells (cs:=olds++news) (c:=olds'.toArray++news'.toArray++Builtin.zeroCells yzv.cells (grownCap w (n+m) c e-(n+m))) e (by simp [n1.len,o1.len]) (fun j v hv=>pad olds news olds' news' _ o1 n1 j v hv);refine ⟨_,_,_,hr,Grow.newB hM,hm',?_⟩;refine .one (.sc (.su (B:=w.heap.size) (O:=0) (N:=grownCap w (n+m) c e*z) ?_ hq2 hg (by omega) (grownCap_le_maxLen w (n+m) c e hb2)));unfold upd;rw [if_pos rfl,hcs];rfl
          ·cases h
        ·split at h
         ·rename_i hcu hcz
          have hcz:=Nat.eq_of_beq_eq_true hcz;have:∃ B O N c',ρ b=some (B,O,N)∧s'=.slice (some ⟨B,O+o,none⟩) n c'∧n≤c'∧o+c'*z=N∧c'≤maxLen:=by
           cases hs' with
           | sl _ g=>unfold UNK at g hcz;omega
           | @su _ _ _ z' c' B O N e1 _ e2 e3 e4=>exact ⟨_,_,_,_,e1,rfl,e2,by rw [← e3];congr 2;unfold UNK at hcz;omega,e4⟩
           | s0=>unfold UNK at hcz;omega
          obtain ⟨B,O,N,c',eb,rfl,hnc,hN,hcm⟩:=this
          split at h
          ·rename_i hk
           have hk:=Nat.le_of_ble_eq_true hk
           split at h
           ·rename_i M'' hst
            cases h
            obtain ⟨a1,a2,a3,a4,a5⟩:=hM.st hst eb n1;have hroom:n+m≤c':=by
             have:=known_le hM eb;exact Nat.le_of_mul_le_mul_right (show (n+m)*z≤c'*z by omega) hq2
            have hr:=run_append_room_cells (P:=P) w t ty e i ht hi B (O+o) n c' ⟨BX,OX+ox,none⟩ m cx' news' n6 n4 n5 hroom (by rw [i1,Nat.add_assoc];exact a2) (by rw [i1,Nat.add_assoc];exact a3);rw [i1,Nat.add_assoc] at hr;refine ⟨ρ,_,_,hr,a5,a1,.one (.sc ?_)⟩;rw [hcz];exact .su eb hq2 hroom hN hcm
           ·cases h
          ·split at h
           ·rename_i olds nb tb hld2 hbb
            cases h
            obtain ⟨olds',o1,o2,o3⟩:=hM.ld hld2 eb;obtain ⟨c1,c2,c3⟩:=hM.cel _ _ _ _ _ _ hbb eb
            by_cases hroom:n+m≤c'
            ·have hfit:(n+m)*z≤c'*z:=Nat.mul_le_mul_right _ hroom;have k1:∀ j,j<news'.length→(w.cell? ⟨B,O+o+n*z+j,none⟩).isSome=true:=fun j hj=>by
              obtain ⟨u,u1,_,_⟩:=c3 (o+n*z+j) (by omega);rw [show O+o+n*z+j=O+(o+n*z+j) by omega,u1];rfl
             have k2:∀ j,j<news'.length→w.frozen? ⟨B,O+o+n*z+j,none⟩=false:=fun j hj=>by
              obtain ⟨u,_,u1,_⟩:=c3 (o+n*z+j) (by omega);rw [show O+o+n*z+j=O+(o+n*z+j) by omega];exact u1
             have hr:=run_append_room_cells (P:=P) w t ty e i ht hi B (O+o) n c' ⟨BX,OX+ox,none⟩ m cx' news' n6 n4 n5 hroom (by rw [i1];exact k1) (by rw [i1];exact k2);rw [i1] at hr;have ol:=o1.len;have nl:=n1.len;have ht2:Turn w0 w (w.setCells B (O+o+n*z) news') B O N:=Turn.sets news' w (O+o+n*z) O N hM.below c2 (by omega) (by omega);have hf:=hM.fork (n':=(olds++news).length) (t':=wr .e 0 (olds++news)) hbb eb ht2 (o:=o) (by omega) (by simp only [List.length_append];omega) (fun j hj=>by
              by_cases hin:n*z≤j∧j<n*z+news'.length
              ·have hk:j-n*z<news'.length:=by omega
               have e1:=World.cell?_setCells_in B news' (O+o+n*z) w k1 (j-n*z) hk;rw [show O+o+n*z+(j-n*z)=O+o+j by omega] at e1;refine ⟨_,e1,fun v _ hv=>?_⟩
               rcases get_wr _ _ _ _ _ hv with ⟨q,e2,e3⟩ | ⟨_,e3⟩
               ·rw [List.getElem?_append_right (by omega)] at e3;obtain ⟨u,u1,u2⟩:=n1.get e3;rw [show q-olds.length=j-n*z by omega,List.getElem?_eq_getElem hk] at u1
                cases u1;exact u2
               ·rw [T.get_e] at e3;cases e3
              ·obtain ⟨u,u1,_,_⟩:=c3 (o+j) (by omega);rw [← Nat.add_assoc] at u1;refine ⟨u,by rw [World.cell?_setCells_out B news' _ w _ (by intro _ _;dsimp only;omega)];exact u1,fun v hv1 hv=>?_⟩
               rcases get_wr _ _ _ _ _ hv with ⟨q,e2,e3⟩ | ⟨_,e3⟩
               ·have hq3:q<olds.length:=by
                 have:=(List.getElem?_eq_some_iff.1 e3).1;simp only [List.length_append] at this;omega
                rw [List.getElem?_append_left hq3] at e3;obtain ⟨u',a1,a2⟩:=o1.get e3;have:=o3 _ _ a1;rw [show q=j by omega,u1] at this
                cases this;exact a2
               ·rw [T.get_e] at e3;cases e3)
             refine ⟨_,_,_,hr,?_,hf,?_⟩
             ·refine ⟨fun x hx=>by unfold upd;rw [if_neg (by omega)],Nat.le_succ _,fun j y hj ej g=>?_⟩
              rcases Mem.get_put g with ⟨rfl,_⟩ | ⟨_,g⟩
              ·exact absurd hj (Nat.lt_irrefl _)
              ·rcases Mem.get_put g with ⟨rfl,_⟩ | ⟨_,g⟩
               ·rw [eb] at ej;cases ej
               ·exact g
             ·refine .one (.sc ?_);exact SR.su (B:=B) (O:=O+o) (N:=N-o) (o:=0) (by unfold upd;exact if_pos rfl) hq2 hroom (by omega) hcm
            ·have hr:=run_append_grow (P:=P) w t ty e i yzv ht hi hzi ⟨B,O+o,none⟩ n c' olds' (by rw [o2,i1]) (fun j u e=>by rw [Addr.add_lit];exact o3 j u e) ⟨BX,OX+ox,none⟩ m cx' news' n6 n4 (by omega) h63 (growslice_fits (by omega) (by rw [i2];exact hb1));have hg:=grownCap_ge w (n+m) c' e;have hcs:(olds'.toArray++news'.toArray++Builtin.zeroCells yzv.cells (grownCap w (n+m) c' e-(n+m))).size=grownCap w (n+m) c' e*z:=by
              have:=grown_size (a:=n) (b:=m) (g:=grownCap w (n+m) c' e) (z:=z) (p:=(Builtin.zeroCells yzv.cells (grownCap w (n+m) c' e-(n+m))).size) (by rw [size_zc,hzsz]) hg;simp only [Array.size_append,List.size_toArray,n2,o2] at this ⊢;exact this
             have hm':=(hM.dead b).drew.newCells (cs:=olds++news) (c:=olds'.toArray++news'.toArray++Builtin.zeroCells yzv.cells (grownCap w (n+m) c' e-(n+m))) e (by simp [n1.len,o1.len]) (fun j v hv=>pad olds news olds' news' _ o1 n1 j v hv);refine ⟨_,_,_,hr,(Grow.put eb).trans (Grow.newB (hM.dead b)),hm',?_⟩;refine .one (.sc (.su (B:=w.heap.size) (O:=0) (N:=grownCap w (n+m) c' e*z) ?_ hq2 hg (by omega) (grownCap_le_maxLen w (n+m) c' e hb2)));unfold upd;rw [if_pos (show M.nx=(M.put b Blk.dead).nx from rfl),hcs];rfl
           ·cases h
         ·cases h
       ·cases h
      ·cases h
    ·cases h
   ·cases h
  ·cases h
 ·cases h
theorem evCopy_run (hM:MR w0 ρ M w) {t u ty:TypeId} {d x d' x' v:Value} {M':Mem} (hd:VR ρ d d') (hx:VR ρ x x') (h:evCopy P M t d x=some (v,M')) :
  GoesOn w0 ρ M v M' fun v' w'=>(Builtin.copy_ #[t,u] ty #[d',x']).run P w=.ok v' w':=by
 unfold evCopy at h
 split at h
 ·rename_i e ht
  split at h
  ·rename_i z p n cn q m cm hz
   obtain ⟨p',cn',rfl, -⟩:=hd.sl_len;obtain ⟨q',cm',rfl, -⟩:=hx.sl_len
   split at h
   ·rename_i hk
    cases h
    refine ⟨ρ,_,w,?_,Grow.refl _ _,hM,.one (.sc (.int _ _))⟩;have hl:∀ (x:Addr),(loadCells x 0).run P w=.ok #[] w:=fun x=>by simpa using run_loadCells_list (P:=P) w x [] (by simp)
    cases p'<;>cases q'<;>simp [Builtin.copy_,run_underlying ht,Builtin.lenOf,Builtin.firstCells,run_szOf hz,hk,storeCells,hl,goInt]
   ·rename_i k hk
    have hm0:0<m:=by have:m.min n≤m:=Nat.min_le_left _ _;omega
    have hn0:0<n:=by have:m.min n≤n:=Nat.min_le_right _ _;omega
    split at h
    ·rename_i b o b' o'
     split at h
     ·rename_i cs hld
      split at h
      ·rename_i M'' hst
       cases h
       obtain ⟨B,O,N,_,e1,e2⟩:=hd.sl_inv hn0;obtain ⟨B',O',N',_,e3,e4⟩:=hx.sl_inv hm0
       injection e2 with e5 _ _
       injection e4 with e6 _ _
       subst e5 e6;obtain ⟨cs',c1,c2,c3⟩:=hM.ld hld e3;obtain ⟨a1,a2,a3,a4,a5⟩:=hM.st hst e1 c1;refine ⟨ρ,_,_,?_,a5,a1,.one (.sc (.int _ _))⟩;have hl:=run_loadCells_list (P:=P) w ⟨B',O'+o',none⟩ cs' (fun j v e=>by rw [Addr.add_lit];exact c3 j v e);rw [c2] at hl;have hst:=run_storeCells_cells (P:=P) B (O+o) cs' 0 w (by simpa using a2) (by simpa using a3) a4;simp only [Nat.add_zero] at hst;simp [Builtin.copy_,run_underlying ht,Builtin.lenOf,Builtin.firstCells,run_szOf hz,hk,hl,hst,goInt]
      ·cases h
     ·cases h
    ·cases h
  ·cases h
 ·cases h
theorem evClear_run (hM:MR w0 ρ M w) {t ty:TypeId} {x x' v:Value} {M':Mem} (hx:VR ρ x x') (h:evClear P M t x=some (v,M')) :
  GoesOn w0 ρ M v M' fun v' w'=>(Builtin.clear_ #[t] ty #[x']).run P w=.ok v' w':=by
 unfold evClear at h
 split at h
 ·rename_i e p n c ht
  obtain ⟨p',c',rfl, -⟩:=hx.sl_len
  split at h
  ·cases h
   refine ⟨ρ,_,w,?_,Grow.refl _ _,hM,.tup .nil⟩
   cases p'<;>simp [Builtin.clear_,run_underlying ht]
  ·rename_i hn
   have hn0:0<n:=Nat.pos_of_ne_zero hn
   split at h
   ·rename_i b o z hz
    split at h
    ·rename_i M'' hst hl
     cases h
     have hl:=blt_lt hl;obtain ⟨B,O,N,_,e1,e2⟩:=hx.sl_inv hn0
     injection e2 with e3 _ _
     subst e3;obtain ⟨yzv,z1,z2,yz3,yz4,_⟩:=zeroOf_run (ρ:=ρ) hz;obtain ⟨a1,a2,a3,a4,a5⟩:=hM.st hst e1 (zrep_LR yz4 n);refine ⟨ρ,_,_,?_,a5,a1,.tup .nil⟩;have hst:=run_storeCells_cells (P:=P) B (O+o) (zrep z n) 0 w (by simpa using a2) (by simpa using a3) a4;simp only [Nat.add_zero] at hst;have hzc:(Builtin.zeroCells yzv.cells n).toList=zrep z n:=by rw [zeroCells_list (by rw [← Array.length_toList,z1];exact hl),z1]
     obtain ⟨k,rfl⟩:∃ k,n=k+1:=⟨n-1,by omega⟩;simp [Builtin.clear_,run_underlying ht,yz3,hzc,hst]
    ·cases h
   ·cases h
 ·cases h
theorem evDelete_run (hM:MR w0 ρ M w) {t u ty:TypeId} {m k m' k' v:Value} {M':Mem} (hm:VR ρ m m') (hk:VR ρ k k') (h:evDelete P M t m k=some (v,M')) :
  GoesOn w0 ρ M v M' fun v' w'=>(Builtin.delete_ #[t,u] ty #[m',k']).run P w=.ok v' w':=by
 unfold evDelete at h
 split at h
 ·rename_i kt et b ht hp
  have hk':=hk.eq1 hp;subst hk';obtain ⟨B,O,N,e1,rfl⟩:=hm.map_inv
  split at h
  ·rename_i es c hb
   obtain ⟨_,rfl,e2⟩:=hM.mp _ _ _ _ _ _ hb e1;have hlt:B<w.heap.size:=hM.lim _ _ _ _ e1;have hg:(getObj B).run P w=.ok (.map es c) w:=by simp [getObj,Sem.run,e2]
   have hso:∀ o,(setObj B o).run P w=.ok () { w with heap:=w.heap.setIfInBounds B o }:=fun o=>by simp [setObj,Sem.run,e2]
   split at h
   ·rename_i a i x h1 h2
    cases h
    refine ⟨ρ,_,_,?_,Grow.put e1,hM.setObj hb e1 (.inl ⟨_,_,rfl⟩) (.inl ⟨_,_,rfl,rfl⟩),.tup .nil⟩;simp [Builtin.delete_,run_underlying ht,hg,prun_run _ _ _ h1,prun_run _ _ _ h2,hso]
   ·rename_i a h1 h2
    cases h
    refine ⟨ρ,_,_,?_,Grow.put e1,hM.setObj hb e1 (.inl ⟨_,_,rfl⟩) (.inl ⟨_,_,rfl,rfl⟩),.tup .nil⟩;simp [Builtin.delete_,run_underlying ht,hg,prun_run _ _ _ h1,prun_run _ _ _ h2,hso]
   ·cases h
  ·cases h
 ·cases h
theorem evMapUpdate_run (hM:MR w0 ρ M w) {t:TypeId} {m k x m' k' x' v:Value} {M':Mem} (hm:VR ρ m m') (hk:VR ρ k k') (hx:VR ρ x x') (h:evMapUpdate P M t m k x=some (v,M')) :
  GoesOn w0 ρ M v M' fun v' w'=>(Instr.mapUpdate t m' k' x').run P w=.ok () w'∧v'=undef:=by
 unfold evMapUpdate at h
 split at h
 ·rename_i kt et b ht hp
  obtain ⟨p1,p2⟩:=pl_and hp;have hk':=hk.eq1 p1;have hx':=hx.eq1 p2;subst hk' hx';obtain ⟨B,O,N,e1,rfl⟩:=hm.map_inv
  split at h
  ·rename_i es c hb
   obtain ⟨_,rfl,e2⟩:=hM.mp _ _ _ _ _ _ hb e1;have hg:(getObj B).run P w=.ok (.map es c) w:=by simp [getObj,Sem.run,e2]
   have hso:∀ o,(setObj B o).run P w=.ok () { w with heap:=w.heap.setIfInBounds B o }:=fun o=>by simp [setObj,Sem.run,e2]
   split at h
   ·rename_i a i y h1 h2
    split at h
    ·rename_i hsb
     cases h
     refine ⟨ρ,_,_,⟨?_,rfl⟩,Grow.put e1,hM.setObj hb e1 (.inl ⟨_,_,rfl⟩) (.inl ⟨_,_,rfl,rfl⟩),.undef⟩;simp [Instr.mapUpdate,run_underlying ht,hg,prun_run _ _ _ h1,prun_run _ _ _ h2,Instr.keyThatStays,hsb,hso]
    ·cases h
   ·rename_i a h1 h2
    cases h
    refine ⟨ρ,_,_,⟨?_,rfl⟩,Grow.put e1,hM.setObj hb e1 (.inl ⟨_,_,rfl⟩) (.inl ⟨_,_,rfl,rfl⟩),.undef⟩;simp [Instr.mapUpdate,run_underlying ht,hg,prun_run _ _ _ h1,prun_run _ _ _ h2,hso]
   ·cases h
  ·cases h
 ·cases h
theorem evNext_run (hM:MR w0 ρ M w) {r:Nat} {ty:TypeId} {v:Value} {M':Mem} {B O N:Nat} (hr:ρ r=some (B,O,N)) (h:evNext M r=some (v,M')) :
  GoesOn w0 ρ M v M' fun v' w'=>(Instr.next (.pointer (some ⟨B,O+0,none⟩)) false ty).run P w=.ok v' w':=by
 unfold evNext at h
 split at h
 ·rename_i m since seen last hit
  obtain ⟨_,rfl,mB,mO,mN,d1,d2⟩:=hM.it _ _ _ _ _ _ _ _ hit hr
  split at h
  ·rename_i es c hmp
   obtain ⟨_,_,d3⟩:=hM.mp _ _ _ _ _ _ hmp d1;have hg:(getObj B).run P w=.ok (.mapIter (some mB) since seen last) w:=by simp [getObj,Sem.run,d2]
   have hg2:(getObj mB).run P w=.ok (.map es c) w:=by simp [getObj,Sem.run,d3]
   split at h
   ·cases h
   ·rename_i hc
    dsimp only at h
    split at h
    ·rename_i h1 h2
     cases h
     refine ⟨ρ,_,w,?_,Grow.refl _ _,hM,.tup (.cons (.sc (.bool _)) .nil)⟩;have e1 : (es.filter fun e=>!seen.contains e.born).filter (·.born < since) = #[]:=Array.toList_inj.1 h1;have e2 : (es.filter fun e=>!seen.contains e.born).filter (·.born ≥ since) = #[]:=Array.toList_inj.1 h2;simp only [Instr.next,Sem.run_bind,hg,hg2,Result.andThen,hc,e1,e2];simp [Question.forced]
    ·rename_i e h1 h2
     split at h
     ·rename_i hp
      cases h
      obtain ⟨p1,p2⟩:=pl_and hp;have e1 : (es.filter fun e=>!seen.contains e.born).filter (·.born < since) = #[e]:=Array.toList_inj.1 h1;have e2 : (es.filter fun e=>!seen.contains e.born).filter (·.born ≥ since) = #[]:=Array.toList_inj.1 h2;refine ⟨ρ,_,{ w with heap:=w.heap.setIfInBounds B (.mapIter (some mB) since (seen.push e.born) c) },?_,Grow.put hr,hM.setObj hit hr (.inr ⟨_,_,_,_,rfl⟩) (.inr ⟨_,_,_,_,_,_,_,rfl,d1,rfl⟩),.tup (.cons (.sc (.bool _)) (.cons (V1.refl1 p1) (.cons (V1.refl1 p2) .nil)))⟩;simp only [Instr.next,Sem.run_bind,hg,hg2,Result.andThen,hc,e1,e2];simp [Question.forced,setObj,Sem.run,d2]
     ·cases h
    ·cases h
  ·cases h
 ·cases h
end
end
noncomputable section
section
variable {P:Program} {ρ:Rho} {ev:Operand→Option Value} {ρe:Operand→Value} {w0 w:World} {M:Mem}
theorem run_fillZero {zs : List Value} {yzv : Value} {z len : Nat} (z1 : yzv.cells.toList = zs) (hq1 : zs.length = z) (hq2 : 0 < z) : ((Array.range (len * z)).map (yzv.cells[· % yzv.cells.size]!)).toList = zrep zs len:=by
 have hs:yzv.cells.size=z:=by rw [← Array.length_toList,z1,hq1]
 rw [← z1];exact zrep_map (by rw [hs]) (by omega)
theorem evW_run (hM:MR w0 ρ M w) {o:Oper} {v:Value} {M':Mem} (he:∀ x u,ev x=some u→VR ρ u (ρe x)) (h:evW P ev M o=some (v,M')):GoesOn w0 ρ M v M' (Gives P (execOp ρe o) w):=by
 obtain ⟨dst,op,type,pos,after,guard⟩:=o;have val:∀ {s:Sem Value} {op:Op},(execOp ρe ⟨dst,op,type,pos,after,guard⟩)=(do pure (.value (← s)))→∀ v' w',s.run P w=.ok v' w'→Gives P (execOp ρe ⟨dst,op,type,pos,after,guard⟩) w v' w':=fun e v' w' h=>.inl (by rw [e,Sem.run_bind,h];rfl);unfold evW at h;dsimp only at h
 split at h
 ·rename_i t
  unfold eAlloc at h
  split at h
  ·rename_i z hz
   cases h
   obtain ⟨yzv,z1,z2,yz3,_⟩:=zeroOf_run (ρ:=ρ) hz;refine ⟨_,_,_,val (s:=Instr.alloc t true (.tuple #[])) rfl _ _ (by simp [Instr.alloc,yz3,newVar,newRow];rfl),Grow.newB hM,hM.newLR t (c:=yzv.cells) (by rw [z1];exact z2),.one (.sc ?_)⟩;exact SR.ptr (O:=0) (N:=yzv.cells.size) (if_pos rfl)
  ·cases h
 ·rename_i t x
  unfold eBox at h
  split at h
  ·rename_i u hu
   split at h
   ·rename_i cs hcs
    cases h
    have hx:=he _ _ hu;have hc:LR (SR ρ) cs (ρe x).cells.toList:=by
     generalize ρe x=y at hx
     cases hx with
     | one hx=>exact hx.cells hcs
     | tup _=>simp [cellsOf] at hcs
    refine ⟨_,_,_,val (s:=Instr.box t (ρe x)) rfl _ _ (by simp [Instr.box,newVar,newRow];rfl),Grow.newB hM,hM.newLR t hc,.one (.sc ?_)⟩;exact SR.ptr (O:=0) (N:=(ρe x).cells.size) (if_pos rfl)
   ·cases h
  ·cases h
 ·rename_i t len parts
  unfold eBS at h
  split at h
  ·rename_i e ht
   split at h
   ·rename_i z zs ps hz hzs hps
    split at h
    ·rename_i hq
     simp only [Bool.and_eq_true] at hq;obtain ⟨⟨q1,q2⟩,q3⟩:=hq;have q1:=Nat.eq_of_beq_eq_true q1;have q2:=blt_lt q2;have q3:=Nat.le_of_ble_eq_true q3
     split at h
     ·rename_i cs hf
      cases h
      obtain ⟨yzv,z1,z2,yz3,yz4,_⟩:=zeroOf_run (ρ:=ρ) hzs;have hsz:yzv.cells.size=z:=by rw [← Array.length_toList,z1,q1]
      have hlz:=run_fillZero (len:=len) z1 q1 q2;have hs:=evParts_spec he _ _ hps;obtain ⟨r',r1,r2⟩:=evFill_spec (ρ:=ρ) (place':=fun i=>some (i * z,z)) (fun i=>rfl) _ (parts.map fun (i,x)=>(i,ρe x)).toList _ ((Array.range (len * z)).map (yzv.cells[· % yzv.cells.size]!)) _ (by simpa using hs) (by rw [hlz];exact zrep_LR yz4 len) hf;refine ⟨_,_,_,val (s:=Instr.buildSlice t len (parts.map fun (i,x)=>(i,ρe x))) rfl (.slice (some ⟨w.heap.size,0,none⟩) len len) (w.alloc (.cells r' e)) ?_,Grow.newB hM,hM.newLR e r2,.one (.sc ?_)⟩
      ·have hpos2:¬ (16777216<len*z):=by omega
       simp only [Instr.buildSlice,Sem.run_bind,run_underlying ht,Result.andThen_ok,run_szOf hz]
       by_cases hpos:len*z=0
       ·rw [hpos] at r1 ⊢;have e0:∀ (f:Nat→Value),Array.map f (Array.range 0)=#[]:=fun f=>by simp
        rw [e0] at r1;simp only [if_true,Sem.run_pure,Result.andThen_ok,e0];simp at r1;simp [r1,newRow]
       ·simp [hpos,hpos2,yz3];simp only [Array.size_range] at r1;rw [show (Instr.fill (fun i=>some (i*z,z)) (Array.map (fun x=>yzv.cells[x%yzv.cells.size]!) (Array.range (len*z))) (List.map (fun x=>(x.1,ρe x.2)) parts.toList))=some r' by simpa using r1];simp [newRow]
      ·have:=SR.sl (ρ:=upd ρ M.nx (w.heap.size,0,r'.size)) (b:=M.nx) (o:=0) (n:=len) (c:=len) (O:=0) (B:=w.heap.size) (N:=r'.size) (if_pos rfl) (by
        have:len≤len*z:=Nat.le_mul_of_pos_right _ q2;show len<4611686018427387904;omega)
       exact this
     ·cases h
    ·cases h
   ·cases h
  ·cases h
 ·rename_i t l c
  unfold eMS at h
  split at h
  ·rename_i e kl n kc k ht hl hc
   split at h
   ·rename_i z zs y hz hzs hy
    split at h
    ·rename_i hq
     cases h
     simp only [Bool.and_eq_true] at hq;obtain ⟨⟨⟨⟨⟨q1,q2⟩,q3⟩,q4⟩,q5⟩,q6⟩:=hq;have q1:=Nat.eq_of_beq_eq_true q1;have q2:=blt_lt q2;have q3:=Nat.le_of_ble_eq_true q3;have q4:=Nat.le_of_ble_eq_true q4;have q5:=Nat.le_of_ble_eq_true q5;have q6:=blt_lt q6;obtain ⟨yzv,z1,z2,yz3,yz4,i,hi,hzi⟩:=zeroOf_run (ρ:=ρ) hzs;obtain ⟨i1,i2⟩:=szBy hi hz hy;have e1:=(he _ _ hl).int_inv;have e2:=(he _ _ hc).int_inv;have hsz:yzv.cells.size=z:=by rw [← Array.length_toList,z1,q1]
     have hr:=run_make (P:=P) w t e i yzv ht hi hzi kl kc (n:Int) (k:Int) (Int.natCast_nonneg n) (by omega) (by rw [i2];have:=Int.ofNat_le.2 q4;rw [Int.natCast_mul] at this;exact this) (Int.ofNat_le.2 q5);simp only [Int.toNat_natCast] at hr;rw [i1] at hr;have hmk:(madeCells yzv.cells (k*z)).toList=zrep zs k:=by unfold madeCells;exact run_fillZero z1 q1 q2
     refine ⟨_,_,_,val (s:=Instr.makeSlice t (ρe l) (ρe c)) rfl _ _ (by rw [e1,e2];exact hr),Grow.newB hM,hM.newLR e (by rw [hmk];exact zrep_LR yz4 k),.one (.sc ?_)⟩;have:=SR.sl (ρ:=upd ρ M.nx (w.heap.size,0,(madeCells yzv.cells (k*z)).size)) (b:=M.nx) (o:=0) (n:=n) (c:=k) (O:=0) (B:=w.heap.size) (N:=(madeCells yzv.cells (k*z)).size) (if_pos rfl) q6;exact this
    ·cases h
   ·cases h
  ·cases h
 ·rename_i t x y
  unfold eStore at h
  split at h
  ·rename_i b off u n hx hy hn
   split at h
   ·rename_i cs hcs
    split at h
    ·rename_i M'' hl hst
     cases h
     have hl:=Nat.eq_of_beq_eq_true hl;obtain ⟨B,O,N,e1,e2⟩:=(he _ _ hx).ptr_inv;have hyr:=he _ _ hy;have hc:LR (SR ρ) cs (ρe y).cells.toList:=by
      generalize ρe y=y at hyr
      cases hyr with
      | one hx=>exact hx.cells hcs
      | tup _=>simp [cellsOf] at hcs
     obtain ⟨a1,a2,a3,a4,a5⟩:=hM.st hst e1 hc;have hlen:=hc.len;have hs:=run_storeCells_cells (P:=P) B (O+off) (ρe y).cells.toList 0 w (by simpa using a2) (by simpa using a3) a4;simp only [Nat.add_zero] at hs;refine ⟨ρ,undef,_,.inr ⟨?_,rfl⟩,a5,a1,.undef⟩;have hsz:(ρe y).cells.size=n:=by rw [← Array.length_toList,← hlen,hl]
     simp only [execOp,e2];simp [Instr.storeAt,Instr.sureAddr,storeVar,run_szOf hn,hsz,hs]
    ·cases h
   ·cases h
  ·cases h
 ·rename_i t
  cases h
  refine ⟨_,_,_,val (s:=Instr.makeMap t none) (by rfl) (.map (some w.heap.size)) (w.alloc (.map #[] 0)) rfl,Grow.newB hM,?_,.one (.sc (SR.map (O:=0) (N:=0) (if_pos rfl)))⟩;have hz:ρ M.nx=none:=hM.fresh _ (Nat.le_refl _);refine ((hM.hole hz (.mp #[] 0)).raise (Nat.le_succ _)).fillObj hz (Nat.lt_succ_self _) _ fun y hy=>?_
  rcases Mem.get_put hy with ⟨_,e⟩ | ⟨e,_⟩
  ·exact .inl ⟨_,_,e,rfl⟩
  ·exact absurd rfl e
 ·rename_i t m k x
  unfold eMU at h
  split at h
  ·rename_i m' k' x' hm hk hx
   have:=evMapUpdate_run (P:=P) hM (he _ _ hm) (he _ _ hk) (he _ _ hx) h;refine this.mono fun v' w' hr=>.inr ⟨?_,hr.2⟩;simp only [execOp];rw [Sem.run_bind,hr.1];rfl
  ·cases h
 ·rename_i t x
  unfold eRange at h
  split at h
  ·rename_i kt et b ht hx
   split at h
   ·rename_i es c hb
    cases h
    obtain ⟨B,O,N,e1,e2⟩:=(he _ _ hx).map_inv;obtain ⟨_,rfl,e3⟩:=hM.mp _ _ _ _ _ _ hb e1;have hr:=run_range_map (P:=P) w t kt et B es c ht e3;refine ⟨_,_,_,val (s:=Instr.range t (ρe x)) rfl _ _ (by rw [e2];exact hr),Grow.newB hM,?_,.one (.sc (SR.ptr (O:=0) (N:=0) (if_pos rfl)))⟩;have hz:ρ M.nx=none:=hM.fresh _ (Nat.le_refl _);refine ((hM.hole hz (.it b c #[] c)).raise (Nat.le_succ _)).fillObj hz (Nat.lt_succ_self _) _ fun y hy=>?_
    rcases Mem.get_put hy with ⟨_,e⟩ | ⟨e,_⟩
    ·exact .inr ⟨_,_,_,_,_,_,_,e,e1,rfl⟩
    ·exact absurd rfl e
   ·cases h
  ·cases h
 ·rename_i x
  unfold eNext at h
  split at h
  ·rename_i r hx
   obtain ⟨B,O,N,e1,e2⟩:=(he _ _ hx).ptr_inv;have hO:O=0:=by
    unfold evNext at h
    split at h
    ·rename_i hit;exact (hM.it _ _ _ _ _ _ _ _ hit e1).2.1
    ·cases h
   subst hO;have:=evNext_run (P:=P) (ty:=type) hM e1 h;refine this.mono fun v' w' hr=>val (s:=Instr.next (ρe x) false type) rfl _ _ (by rw [e2];exact hr)
  ·cases h
 ·rename_i c
  unfold eBW at h;obtain ⟨callee,args,ats⟩:=c;dsimp only at h
  split at h
  ·rename_i b
   split at h
   ·rename_i t ts l h0 hl
    have hl':=evAll_spec he _ _ hl;have hx:(execOp ρe ⟨dst,.call ⟨.builtin b,args,ats⟩,type,pos,after,guard⟩)=builtin b ats type (args.map fun | .const _=>true | _=>false) (args.map ρe):=rfl;have two:∀ {s x},l=[s,x]→∃ s' x',args.map ρe=#[s',x']∧VR ρ s s'∧VR ρ x x':=fun {s x} e=>by
     subst e
     cases hm:args.toList.map ρe with
     | nil=>rw [hm] at hl';cases hl'
     | cons y ys =>
      rw [hm] at hl'
      cases hl' with
      | cons r1 r2=>cases r2 with
       | cons r2 r3=>cases r3 with
        | nil=>exact ⟨_,_,by apply Array.toList_inj.1;rw [Array.toList_map,hm],r1,r2⟩
    have onev:∀ {s},l=[s]→∃ s',args.map ρe=#[s']∧VR ρ s s':=fun {s} e=>by
     subst e
     cases hm:args.toList.map ρe with
     | nil=>rw [hm] at hl';cases hl'
     | cons y ys =>
      rw [hm] at hl'
      cases hl' with
      | cons r1 r2=>cases r2 with
       | nil=>exact ⟨_,by apply Array.toList_inj.1;rw [Array.toList_map,hm],r1⟩
    split at h
    ·rename_i t' s x
     split at h
     ·rename_i htt
      have htt:=Nat.eq_of_beq_eq_true htt;subst htt;obtain ⟨s',x',a1,a2,a3⟩:=two rfl;have hats:ats=#[t,t]:=Array.toList_inj.1 h0;refine (evAppend_run (P:=P) (ty:=type) hM a2 a3 h).mono fun v' w' hr=>.inl ?_;rw [hx,a1,hats];show (do pure (.value (← Builtin.append_ #[t,t] type #[s',x'])):Sem Next).run P w=_;rw [Sem.run_bind,hr];rfl
     ·cases h
    ·rename_i d x
     obtain ⟨s',x',a1,a2,a3⟩:=two rfl;refine (evCopy_run (P:=P) (u:=t) (ty:=type) hM a2 a3 h).mono fun v' w' hr=>.inl ?_;have hc:Builtin.copy_ ats type #[s',x']=Builtin.copy_ #[t,t] type #[s',x']:=by
      have:ats[0]?=some t:=by rw [← Array.getElem?_toList,h0];rfl
      unfold Builtin.copy_;rw [this];rfl
     rw [hx,a1];show (do pure (.value (← Builtin.copy_ ats type #[s',x'])):Sem Next).run P w=_;rw [Sem.run_bind,hc,hr];rfl
    ·rename_i x
     obtain ⟨s',a1,a2⟩:=onev rfl;refine (evClear_run (P:=P) (ty:=type) hM a2 h).mono fun v' w' hr=>.inl ?_;have hc:Builtin.clear_ ats type #[s']=Builtin.clear_ #[t] type #[s']:=by
      have:ats[0]?=some t:=by rw [← Array.getElem?_toList,h0];rfl
      unfold Builtin.clear_;rw [this];rfl
     rw [hx,a1];show (do pure (.value (← Builtin.clear_ ats type #[s'])):Sem Next).run P w=_;rw [Sem.run_bind,hc,hr];rfl
    ·rename_i m k
     obtain ⟨s',x',a1,a2,a3⟩:=two rfl;refine (evDelete_run (P:=P) (u:=t) (ty:=type) hM a2 a3 h).mono fun v' w' hr=>.inl ?_;have hc:Builtin.delete_ ats type #[s',x']=Builtin.delete_ #[t,t] type #[s',x']:=by
      have:ats[0]?=some t:=by rw [← Array.getElem?_toList,h0];rfl
      unfold Builtin.delete_;rw [this];rfl
     rw [hx,a1];show (do pure (.value (← Builtin.delete_ ats type #[s',x'])):Sem Next).run P w=_;rw [Sem.run_bind,hc,hr];rfl
    ·cases h
   ·cases h
  ·cases h
 ·cases h
end
end
noncomputable section
def kd:Op→Nat
 | .move _=>0
 | .assign _=>0
 | .pick _ _ _=>0
 | .binOp _ _ _ _ _=>0
 | .unOp _ _ _=>0
 | .convert _ _ _=>0
 | .build _ _=>0
 | .nilCheck _=>0
 | .fieldAddr _ _ _=>0
 | .field _ _ _=>0
 | .indexAddr _ _ _=>0
 | .index _ _ _=>0
 | .extract _ _=>0
 | .makeFunc _ _ _=>0
 | .load _ _=>1
 | .slice _ _ _ _ _=>1
 | .entry _=>1
 | .call c=>match c.callee with
  | .builtin .len=>0
  | .builtin .min=>0
  | .builtin .max=>0
  | _=>2
 | _=>2
abbrev Cl:=FuncId→List Value→Mem→Option (Value×Mem)
def hasBody (P:Program) (f:FuncId):Bool :=
 match P.funcs[f]? with
 | some fn => match fn.body, fn.name == "runtime.NumGoroutine" with
  | some _,false=>true
  | _,_=>false
 | none=>false
def evC (P:Program) (cl:Cl) (ev:Operand→Option Value) (M:Mem) (o:Oper):Option (Value×Mem) :=
 match o.op with
 | .call c=>match c.callee with
  | .value f=>match ev f,evAll ev c.args.toList with
   | some (.func (.func g) first cap),some l=>match first.toList,hasBody P g with
    | [],true=>cl g (l++cap.toList) M
    | _,_=>none
   | _,_=>none
  | _=>none
 | _=>none
def evOW (P:Program) (cl:Cl) (ev:Operand→Option Value) (M:Mem) (o:Oper):Option (Value×Mem) :=
 match o.op with
 | .call c=>match c.callee with
  | .value _=>evC P cl ev M o
  | _=>evW P ev M o
 | _=>evW P ev M o
def evO (P:Program) (cl:Cl) (ev:Operand→Option Value) (M:Mem) (o:Oper):Option (Value×Mem) :=
 match kd o.op with
 | 0=>match evP P ev o with
  | some v=>some (v,M)
  | none=>none
 | 1=>match evR P ev M o with
  | some v=>some (v,M)
  | none=>none
 | _=>evOW P cl ev M o
def Fits (P:Program) (w0:World) (G:Nat) (cl:Cl):Prop:=∀ g l M v M',cl g l M=some (v,M')→∀ ρ w (l':Array Value),(∃ N,ρ G=some (G,0,N))→MR w0 ρ M w→LR (VR ρ) l l'.toList →
 Calls P g l' w fun e w'=>∃ v',e=.returned v'∧∃ ρ',Grow ρ M ρ' M'∧MR w0 ρ' M' w'∧VR ρ' v v'
section
variable {P:Program} {ρ:Rho} {ev:Operand→Option Value} {w0 w:World} {M:Mem} {cl:Cl} {G:Nat}
theorem upon_gives {o:Oper} {a:Act} {next:Act→World→Prop} {Q:Exit→Act→World→Prop} {v':Value} {w':World} (h:Gives P (execOp a.eval o) w v' w') (k:next (a.put o.dst v') w'):o.wp P a w next Q:=by
 unfold Oper.wp
 rcases h with h | ⟨h,rfl⟩
 ·rw [h];exact k
 ·rw [h];exact k
theorem LR_VR_of_SR {l m:List Value} (h:LR (SR ρ) l m):LR (VR ρ) l m:=h.mono fun _ _ r=>.one (.sc r)
theorem evC_wp (hM:MR w0 ρ M w) (hcl:Fits P w0 G cl) (hgl:∃ N,ρ G=some (G,0,N)) {o:Oper} {a:Act} {v:Value} {M':Mem} (he:∀ x u,ev x=some u→VR ρ u (a.eval x)) (h:evC P cl ev M o=some (v,M')) {next:Act→World→Prop} {Q:Exit→Act→World→Prop}
  (k:∀ ρ' v' w',Grow ρ M ρ' M'→MR w0 ρ' M' w'→VR ρ' v v'→next (a.put o.dst v') w'):o.wp P a w next Q:=by
 obtain ⟨dst,op,type,pos,after,guard⟩:=o;unfold evC at h;dsimp only at h
 split at h
 ·rename_i c
  obtain ⟨callee,args,ats⟩:=c;dsimp only at h
  split at h
  ·rename_i f
   split at h
   ·rename_i g first cap l hf hl
    split at h
    ·rename_i h0 hb
     have e0:first=#[]:=Array.toList_inj.1 h0;subst e0;obtain ⟨ys,e1,e2⟩:=(he _ _ hf).fn_inv;have hl':=evAll_spec he _ _ hl;unfold hasBody at hb
     split at hb
     ·rename_i fn hfn
      split at hb
      ·rename_i code hbody hname
       have hr:(execOp a.eval ⟨dst,.call ⟨.value f,args,ats⟩,type,pos,after,guard⟩).run P w=.ok (.enter g (args.map a.eval++ys)) w:=by
        have hcf:(callFunc g (args.map a.eval++ys)).run P w=.ok (.enter g (args.map a.eval++ys)) w:=by
         have hname' : ¬ fn.name = "runtime.NumGoroutine" := by simpa using hname
         simp [callFunc,hfn,hname',hbody]
        simp only [execOp,resolve,e1,Deferred.ofValue];rw [Sem.run_bind];show ((pure { target:=.fn (.func g) ys,args:=#[]++args.map a.eval }:Sem Deferred).run P w).andThen _=_;simp only [Array.empty_append];exact hcf
       unfold Oper.wp;rw [hr];have hc:=hcl _ _ _ _ _ h ρ w (args.map a.eval++ys) hgl hM (by rw [Array.toList_append,Array.toList_map];exact hl'.append (LR_VR_of_SR e2));refine hc.mono ?_;rintro e w' ⟨v',rfl,ρ',g1,g2,g3⟩;exact k ρ' v' w' g1 g2 g3
      ·cases hb
     ·cases hb
    ·cases h
   ·cases h
  ·cases h
 ·cases h
theorem evOW_wp (hM:MR w0 ρ M w) (hcl:Fits P w0 G cl) (hgl:∃ N,ρ G=some (G,0,N)) {o:Oper} {a:Act} {v:Value} {M':Mem} (he:∀ x u,ev x=some u→VR ρ u (a.eval x)) (h:evOW P cl ev M o=some (v,M')) {next:Act→World→Prop} {Q:Exit→Act→World→Prop}
  (k:∀ ρ' v' w',Grow ρ M ρ' M'→MR w0 ρ' M' w'→VR ρ' v v'→next (a.put o.dst v') w'):o.wp P a w next Q:=by
 have hW:evW P ev M o=some (v,M')→o.wp P a w next Q:=fun h=>by
  obtain ⟨ρ',v',w',g,g1,g2,g3⟩:=evW_run hM he h;exact upon_gives g (k ρ' v' w' g1 g2 g3)
 unfold evOW at h
 split at h
 ·split at h
  ·exact evC_wp hM hcl hgl he h k
  ·exact hW h
 ·exact hW h
theorem evO_wp (hM:MR w0 ρ M w) (hcl:Fits P w0 G cl) (hgl:∃ N,ρ G=some (G,0,N)) {o:Oper} {a:Act} {v:Value} {M':Mem} (he:∀ x u,ev x=some u→VR ρ u (a.eval x)) (h:evO P cl ev M o=some (v,M')) {next:Act→World→Prop} {Q:Exit→Act→World→Prop}
  (k:∀ ρ' v' w',Grow ρ M ρ' M'→MR w0 ρ' M' w'→VR ρ' v v'→next (a.put o.dst v') w'):o.wp P a w next Q:=by
 unfold evO at h
 split at h
 ·split at h
  ·rename_i u hu
   cases h
   obtain ⟨v',r1,r2⟩:=evP_run he hu;exact upon_gives (.inl (r2 w)) (k ρ v' w (Grow.refl _ _) hM r1)
  ·cases h
 ·split at h
  ·rename_i u hu
   cases h
   obtain ⟨v',r1,r2⟩:=evR_run hM he hu;exact upon_gives (.inl r2) (k ρ v' w (Grow.refl _ _) hM r1)
  ·cases h
 ·exact evOW_wp hM hcl hgl he h k
end
def opv (G:Nat) (tv:T Value):Operand→Option Value
 | .tmp t=>tv.get t
 | .const v=>match pl v with
  | true=>some v
  | false=>none
 | .global g=>match Nat.beq g G with
  | true=>some (.pointer (some ⟨g,0,none⟩))
  | false=>none
 | .func f=>some (.func (.func f) #[] #[])
structure TR (G:Nat) (ρ:Rho) (sz:Nat) (tv:T Value) (a:Act):Prop where
 defers:a.defers=[]
 size:a.tmps.size=sz
 tmp:∀ t v,tv.get t=some v→∃ v',a.tmps[t]?=some v'∧VR ρ v v'
 glob:∃ N,ρ G=some (G,0,N)
theorem TR.ev {G:Nat} {ρ:Rho} {sz:Nat} {tv:T Value} {a:Act} (h:TR G ρ sz tv a):∀ x u,opv G tv x=some u→VR ρ u (a.eval x)
 | .tmp t,u,e=>by
  obtain ⟨v',e1,e2⟩:=h.tmp t u e;show VR ρ u (a.tmps.getD t undef);rw [show a.tmps.getD t undef=v' by rw [Array.getD_eq_getD_getElem?,e1];rfl];exact e2
 | .const v,u,e=>by
  unfold opv at e;dsimp only at e
  split at e
  ·rename_i hp;cases e;exact .one (V1.refl1 hp)
  ·cases e
 | .global g,u,e=>by
  unfold opv at e;dsimp only at e
  split at e
  ·rename_i hg
   cases e
   have hg:=Nat.eq_of_beq_eq_true hg;subst hg;obtain ⟨N,e1⟩:=h.glob;exact .one (.sc (SR.ptr (O:=0) (o:=0) e1))
  ·cases e
 | .func f,u,e=>by cases e;exact .one (.fn .nil)
theorem TR.mono {G:Nat} {ρ ρ':Rho} {sz:Nat} {tv:T Value} {a:Act} (h:TR G ρ sz tv a) (s:Sub ρ ρ'):TR G ρ' sz tv a :=
 ⟨h.defers,h.size,fun t v e=>let ⟨v',a,b⟩:=h.tmp t v e; ⟨v',a,b.mono s⟩,let ⟨N,e⟩:=h.glob; ⟨N,s _ _ e⟩⟩
def putT (sz:Nat) (tv:T Value) (d:Option Tmp) (v:Value):Option (T Value) :=
 match d with
 | none=>some tv
 | some d=>match Nat.blt d sz with
  | true=>some (tv.set FU d v)
  | false=>none
theorem TR.put {G:Nat} {ρ:Rho} {sz:Nat} {tv tv':T Value} {a:Act} (h:TR G ρ sz tv a) {d:Option Tmp} {v v':Value} (hp:putT sz tv d v=some tv') (hv:VR ρ v v'):TR G ρ sz tv' (a.put d v'):=by
 unfold putT at hp
 split at hp
 ·cases hp;exact h
 ·rename_i d
  split at hp
  ·rename_i hd
   cases hp
   have hd:=blt_lt hd;refine ⟨h.defers,by simp [Act.put,h.size],fun t u e=>?_,h.glob⟩;simp only [Act.put]
   rcases T.get_set _ _ _ _ _ _ e with ⟨rfl,rfl⟩ | ⟨hne,e2⟩
   ·exact ⟨v',by rw [Array.getElem?_setIfInBounds_self_of_lt (by rw [h.size];exact hd)],hv⟩
   ·rw [Array.getElem?_setIfInBounds_ne (Ne.symm hne)];exact h.tmp t u e2
  ·cases hp
def gd (ops:Array Oper) (ev:Operand→Option Value) (o:Oper):Option Bool :=
 match o.guard with
 | none=>some true
 | some (j,want)=>match (ops[j]?).bind (·.dst) with
  | some d=>match ev (.tmp d) with
   | some (.bool b)=>some (b==want)
   | some (.tuple _)=>some false
   | _=>none
  | none=>none
theorem gd_wanted {ops:Array Oper} {ev:Operand→Option Value} {o:Oper} {b:Bool} {a:Act} {ρ:Rho} (he:∀ d u,ev (.tmp d)=some u→∃ v',a.tmps[d]?=some v'∧VR ρ u v') (h:gd ops ev o=some b):Region.wanted o (yielded ops a.tmps)=b:=by
 unfold gd at h;unfold Region.wanted
 split at h
 ·rename_i hg;cases h;rw [hg]
 ·rename_i j want hg
  rw [hg];dsimp only
  split at h
  ·rename_i d hd
   split at h
   ·rename_i x hx
    cases h
    obtain ⟨v',e1,e2⟩:=he _ _ hx;have e3:=e2.bool_inv;subst e3;unfold yielded;rw [hd];simp only [Option.bind_some,e1]
    cases x<;>cases want<;>rfl
   ·rename_i x hx
    cases h
    obtain ⟨v',e1,e2⟩:=he _ _ hx;obtain ⟨ys,rfl,_⟩:=e2.tup_inv;unfold yielded;rw [hd];simp only [Option.bind_some,e1]
    rfl
   ·cases h
  ·cases h
def evOps (P:Program) (cl:Cl) (G sz:Nat) (ops:Array Oper):List Oper→T Value→Mem→Option (T Value×Mem)
 | [],tv,M=>some (tv,M)
 | o::l,tv,M=>match gd ops (opv G tv) o with
  | none=>none
  | some false=>match putT sz tv o.dst undef with
   | some tv'=>evOps P cl G sz ops l tv' M
   | none=>none
  | some true=>match evO P cl (opv G tv) M o with
   | none=>none
   | some (v,M')=>match putT sz tv o.dst v with
    | some tv'=>evOps P cl G sz ops l tv' M'
    | none=>none
theorem TR.gdev {G:Nat} {ρ:Rho} {sz:Nat} {tv:T Value} {a:Act} (h:TR G ρ sz tv a):∀ d u,opv G tv (.tmp d)=some u→∃ v',a.tmps[d]?=some v'∧VR ρ u v':=fun d u e=>h.tmp d u e
theorem evOps_wp {P:Program} {cl:Cl} {G sz:Nat} {ops:Array Oper} {w0:World} (hcl:Fits P w0 G cl) {Q:Exit→Act→World→Prop}:∀ (l:List Oper) (is:List Nat) (tv:T Value) (M:Mem) (ρ:Rho) (a:Act) (w:World) (tv':T Value) (M':Mem),
  is.map (fun i=>ops[i]?)=l.map some→evOps P cl G sz ops l tv M=some (tv',M')→TR G ρ sz tv a→MR w0 ρ M w →
  (∀ ρ' a' w',Grow ρ M ρ' M'→MR w0 ρ' M' w'→TR G ρ' sz tv' a'→Q .normal a' w')→wpOps P ops Q is a w
 | [],[],tv,M,ρ,a,w,tv',M',_,h,hT,hM,k=>by cases h;exact k ρ a w (Grow.refl _ _) hM hT
 | [],_::_,_,_,_,_,_,_,_,e,_,_,_,_=>by simp at e
 | _::_,[],_,_,_,_,_,_,_,e,_,_,_,_=>by simp at e
 | o::l,i::is,tv,M,ρ,a,w,tv',M',e,h,hT,hM,k=>by
  simp only [List.map_cons,List.cons.injEq] at e;obtain ⟨e1,e2⟩:=e;rw [wpOps_cons];unfold wpOp;rw [e1];dsimp only;unfold evOps at h
  split at h
  ·cases h
  ·rename_i hg
   rw [gd_wanted hT.gdev hg]
   split at h
   ·rename_i tv1 hp
    simp only [Bool.false_eq_true,if_false];exact evOps_wp hcl l is tv1 M ρ _ w tv' M' e2 h (hT.put hp .undef) hM k
   ·cases h
  ·rename_i hg
   rw [gd_wanted hT.gdev hg]
   split at h
   ·cases h
   ·rename_i v M1 ho
    split at h
    ·rename_i tv1 hp
     simp only [if_true];refine .inl (evO_wp hM hcl hT.glob hT.ev ho fun ρ' v' w' g1 g2 g3=>?_);exact evOps_wp hcl l is tv1 M1 ρ' _ w' tv' M' e2 h ((hT.mono (hM.sub g1)).put hp g3) g2 fun ρ'' a' w'' k1 k2 k3=>k ρ'' a' w'' (g1.trans k1) k2 k3
    ·cases h
end
end Go.Vm
