/-
  Parts of the proof: XS0 XS1 XS2 XS3 XS4 XS7 XS8
-/
import Derived.Test.YtclgllmipcbagaaGreatDoorBk01
import Derived.Test.YtclgllmipcbagaaGreatDoorBk00
import Derived.Test.YtclgllmipcbagaaGreatDoorBk07
import Derived.Test.YtclgllmipcbagaaGreatDoorBk02
import Derived.Lib.SliceRun
namespace Go.Proofs.YtclgllmipcbagaaGreatDoor
open Go.RowKit
set_option linter.unusedVariables false
set_option linter.unusedSimpArgs false
set_option maxRecDepth 100000
set_option maxHeartbeats 16000000
structure Ob where
 name:List UInt8
 on:List UInt8
 g:G
 d:List Int
 deriving DecidableEq,Inhabited
structure Ses where
 obs:List Ob
 past:List (List Ob)
 fut:List (List Ob)
 deriving DecidableEq,Inhabited
structure Cmd where
 kind:Int
 name:List UInt8
 on:List UInt8
 other:List UInt8
 q:Int
 g:G
 vals:List Int
 deriving DecidableEq,Inhabited
def ob0:Ob:=⟨[],[],⟨0,[]⟩,[]⟩
def ses0:Ses:=⟨[],[],[]⟩
def cmd0:Cmd:=⟨0,[],[],[],0,⟨0,[]⟩,[]⟩
def plN (l:List Ob)(n:List UInt8):Nat:=(l.takeWhile fun x=> !(x.name==n)).length
theorem plN_le (l:List Ob)(n:List UInt8):plN l n≤l.length:=by
 unfold plN;induction l with
 |nil=>simp
 |cons x l ih=>rw[List.takeWhile_cons];split<;>simp<;>omega
theorem plN_lt (l:List Ob)(n:List UInt8):∀k,k<plN l n→(l[k]?.getD default).name≠n:=by
 unfold plN;induction l with
 |nil=>intro k hk;simp at hk
 |cons x l ih=>
  intro k hk
  rw[List.takeWhile_cons]at hk
  split at hk
  ·rename_i h
   cases k with
   |zero=>simpa using h
   |succ k=>simpa using ih k (by simpa using hk)
  ·simp at hk
theorem plN_at (l:List Ob)(n:List UInt8)(h:plN l n<l.length):(l[plN l n]?.getD default).name=n:=by
 unfold plN at h⊢;induction l with
 |nil=>simp at h
 |cons x l ih=>
  rw[List.takeWhile_cons]at h⊢
  split
  ·rename_i h1
   rw[if_pos h1]at h;simpa using ih (by simpa using h)
  ·rename_i h1
   simpa using h1
theorem plN_of {l:List Ob}{n:List UInt8}{k:Nat}(h1:∀j,j<k→(l[j]?.getD default).name≠n)(h2:k<l.length)(h3:(l[k]?.getD default).name=n):plN l n=k:=by
 rcases Nat.lt_trichotomy (plN l n) k with h|h|h
 ·exact absurd (plN_at l n (by omega)) (h1 _ h)
 ·exact h
 ·exact absurd h3 (plN_lt l n k h)
theorem plN_none {l:List Ob}{n:List UInt8}(h:∀j,j<l.length→(l[j]?.getD default).name≠n):plN l n=l.length:=by
 rcases Nat.lt_or_ge (plN l n) l.length with h1|h1
 ·exact absurd (plN_at l n h1) (h _ h1)
 ·have:=plN_le l n;omega
def plI (l:List Ob)(n:List UInt8):Int:=if plN l n<l.length then plN l n else -1
def obOf (l:List Ob)(n:List UInt8):Ob:=l[plN l n]?.getD default
def isG (l:List Ob)(n:List UInt8):Bool:=decide (plN l n<l.length)&&decide ((obOf l n).on=[])
def isD (l:List Ob)(n:List UInt8):Bool:=decide (plN l n<l.length)&& !decide ((obOf l n).on=[])
def zeroG (g:G):Bool:=decide (g.n=0)&&decide (g.es=[])
def obErr (l:List Ob)(x:Ob):Int:=
 if x.on=[]then(if checkErr x.g≠0 then checkErr x.g else if x.d≠[]then 3 else 0)
 else if isG l x.on=false then 6 else if zeroG x.g=false then 3 else dErr x.d (obOf l x.on).g.n
def leN (a b:List UInt8):Bool:=Op.bytesLess a b||a==b
def obAt (l:List Ob)(k:Nat):Int:=
 if wordErr (l[k]?.getD default).name≠0 then wordErr (l[k]?.getD default).name
 else if (decide (0<k)&&leN (l[k]?.getD default).name (l[k-1]?.getD default).name)=true then 9
 else obErr l (l[k]?.getD default)
def fstE (f:Nat→Int):Nat→Nat→Int
 |_,0=>0
 |k,m+1=>if f k≠0 then f k else fstE f (k+1) m
theorem fstE_step {f:Nat→Int}{k n:Nat}(h:k<n):fstE f k (n-k)=if f k≠0 then f k else fstE f (k+1) (n-(k+1)):=by
 obtain⟨m,hm⟩:∃m,n-k=m+1:=⟨n-k-1,by omega⟩;rw[hm,show n-(k+1)=m by omega];rfl
theorem fstE_zero {f:Nat→Int}:∀{m k:Nat},fstE f k m=0→∀j,k≤j→j<k+m→f j=0
 |0,k,_,j,h1,h2=>by omega
 |m+1,k,h,j,h1,h2=>by
  unfold fstE at h;by_cases hk:f k=0
  ·rw[if_neg (by simpa using hk)]at h
   by_cases e:j=k
   ·subst e;exact hk
   ·exact fstE_zero h j (by omega) (by omega)
  ·rw[if_pos hk]at h;exact absurd h hk
def obsErr (l:List Ob):Int:=if 32<l.length then 5 else fstE (obAt l) 0 l.length
def lsErr (ls:List (List Ob)):Int:=if 64<ls.length then 5 else fstE (fun k=>obsErr (ls[k]?.getD [])) 0 ls.length
def sesErr (s:Ses):Int:=if obsErr s.obs≠0 then obsErr s.obs else if lsErr s.past≠0 then lsErr s.past else lsErr s.fut
def kName (k:Int):Bool:=decide (k≤6)
def kOn (k:Int):Bool:=decide (k=1)||decide (k=5)
def kOther (k:Int):Bool:=decide (k=5)
def kAt (k:Int):Bool:=decide (k=3)||decide (k=4)
def kVals (k:Int):Bool:=decide (k=1)||decide (k=2)
def wordsErr (c:Cmd):Int:=
 if (kName c.kind&&wordErr c.name !=0)=true then wordErr c.name
 else if (kOn c.kind&&wordErr c.on !=0)=true then wordErr c.on
 else if kOther c.kind=true then wordErr c.other else 0
def numsErr (c:Cmd):Int:=
 if (kAt c.kind&&(decide (c.q<0)||decide (12≤c.q)))=true then 2
 else if (decide (c.kind=0)&&checkErr c.g !=0)=true then checkErr c.g
 else if kVals c.kind=false then 0
 else if c.vals.length<1∨12<c.vals.length then 8 else dErr c.vals c.vals.length
def spare (c:Cmd):Bool:=
 (!kName c.kind&& !c.name.isEmpty)||(!kOn c.kind&& !c.on.isEmpty)||(!kOther c.kind&& !c.other.isEmpty)||(!kAt c.kind&&decide (c.q≠0))||(!kVals c.kind&& !c.vals.isEmpty)||(decide (c.kind≠0)&& !zeroG c.g)
def rightErr (c:Cmd):Int:=
 if c.kind<0∨8<c.kind then 1 else if wordsErr c≠0 then wordsErr c else if numsErr c≠0 then numsErr c else if spare c=true then 3 else 0
def ObV (w:World)(x:Ob)(vs:List Value):Prop:=∃ev dv,vs=[.string (str x.name),.string (str x.on),.int .i64 x.g.n,ev,dv]∧EdgesR w ev x.g.es∧IntsR w dv x.d
theorem ObV.below {w w':World}{x:Ob}{vs:List Value}(h:ObV w x vs)(hb:Below w.heap.size w w'):ObV w' x vs:=by
 obtain⟨ev,dv,e,h1,h2⟩:=h;exact⟨ev,dv,e,h1.below hb,h2.below hb⟩
def ObsR (w:World)(v:Value)(l:List Ob):Prop:=
 ∃a cap cs,v= .slice a l.length cap∧l.length≤cap∧cap≤9223372036854775807∧l.length*88≤140737488355328∧CellsAt w a cs∧cs.length=l.length*5∧∀k,k<l.length→ObV w (l[k]?.getD default) ((cs.drop (k*5)).take 5)
theorem ObsR.below {w w':World}{v:Value}{l:List Ob}(h:ObsR w v l)(hb:Below w.heap.size w w'):ObsR w' v l:=by
 obtain⟨a,cap,cs,h1,h2,h3,h4,h5,h6,h7⟩:=h;exact⟨a,cap,cs,h1,h2,h3,h4,h5.below hb,h6,fun k hk=>(h7 k hk).below hb⟩
theorem drop5 {α:Type}{cs:List α}{k:Nat}{x0 x1 x2 x3 x4:α}(h:(cs.drop (k*5)).take 5=[x0,x1,x2,x3,x4]):cs[k*5]? =some x0∧cs[k*5+1]? =some x1∧cs[k*5+2]? =some x2∧cs[k*5+3]? =some x3∧cs[k*5+4]? =some x4:=by
 have e:∀j,j<5→cs[k*5+j]? =[x0,x1,x2,x3,x4][j]? :=fun j hj=>by
  rw[← h,List.getElem?_take_of_lt hj,List.getElem?_drop]
 exact⟨e 0 (by omega),e 1 (by omega),e 2 (by omega),e 3 (by omega),e 4 (by omega)⟩
theorem ObsR.at {w:World}{a:Option Addr}{n cap:Nat}{l:List Ob}(h:ObsR w (.slice a n cap) l)(k:Nat)(hk:k<l.length):
 ∃b off ev dv,a=some ⟨b,off,none⟩∧b<w.heap.size∧w.cell? ⟨b,off+k*5,none⟩=some (.string (str (l[k]?.getD default).name))∧w.cell? ⟨b,off+k*5+1,none⟩=some (.string (str (l[k]?.getD default).on))∧w.cell? ⟨b,off+k*5+2,none⟩=some (.int .i64 (l[k]?.getD default).g.n)∧
  w.cell? ⟨b,off+k*5+3,none⟩=some ev∧w.cell? ⟨b,off+k*5+4,none⟩=some dv∧EdgesR w ev (l[k]?.getD default).g.es∧IntsR w dv (l[k]?.getD default).d:=by
 obtain⟨a',cap',cs,e,_,_,_,hc,hl,ho⟩:=h;injection e with e1 _ _
 subst e1;obtain⟨ev,dv,e,h1,h2⟩:=ho k hk;obtain⟨y0,y1,y2,y3,y4⟩:=drop5 e;rcases hc with hc|⟨b,off,e2,hb,hc⟩
 ·rw[hc]at hl;simp at hl;omega
 ·refine⟨b,off,ev,dv,e2,hb,?_,?_,?_,?_,?_,h1,h2⟩
  ·rw[hc _ (by omega)];exact y0
  ·rw[show off+k*5+1=off+(k*5+1) by omega,hc _ (by omega)];exact y1
  ·rw[show off+k*5+2=off+(k*5+2) by omega,hc _ (by omega)];exact y2
  ·rw[show off+k*5+3=off+(k*5+3) by omega,hc _ (by omega)];exact y3
  ·rw[show off+k*5+4=off+(k*5+4) by omega,hc _ (by omega)];exact y4
theorem ObsR.form {w:World}{v:Value}{l:List Ob}(h:ObsR w v l):∃a cap,v= .slice a l.length cap∧l.length≤cap∧cap≤9223372036854775807∧l.length*88≤140737488355328:=by
 obtain⟨a,cap,cs,h1,h2,h3,h4,_⟩:=h;exact⟨a,cap,h1,h2,h3,h4⟩
theorem ObsR.nil (w:World):ObsR w (.slice none 0 0) []:=⟨none,0,[],rfl,Nat.le_refl _,by omega,by decide,.inl rfl,rfl,fun k hk=>by cases hk⟩
def LsoR (w:World)(v:Value)(ls:List (List Ob)):Prop:=
 ∃a cap vs,v= .slice a ls.length cap∧ls.length≤cap∧cap≤9223372036854775807∧ls.length*24≤140737488355328∧CellsAt w a vs∧vs.length=ls.length∧∀k,k<ls.length→ObsR w (vs[k]?.getD undef) (ls[k]?.getD [])
theorem LsoR.below {w w':World}{v:Value}{l:List (List Ob)}(h:LsoR w v l)(hb:Below w.heap.size w w'):LsoR w' v l:=by
 obtain⟨a,cap,cs,h1,h2,h3,h4,h5,h6,h7⟩:=h;exact⟨a,cap,cs,h1,h2,h3,h4,h5.below hb,h6,fun k hk=>(h7 k hk).below hb⟩
theorem LsoR.at {w:World}{a:Option Addr}{n cap:Nat}{ls:List (List Ob)}(h:LsoR w (.slice a n cap) ls)(k:Nat)(hk:k<ls.length):
 ∃b off lv,a=some ⟨b,off,none⟩∧b<w.heap.size∧w.cell? ⟨b,off+k,none⟩=some lv∧ObsR w lv (ls[k]?.getD []):=by
 obtain⟨a',cap',vs,e,_,_,_,hc,hl,hr⟩:=h;injection e with e1 _ _
 subst e1;rcases hc with hc|⟨b,off,e2,hb,hc⟩
 ·rw[hc]at hl;simp at hl;omega
 ·refine⟨b,off,vs[k]?.getD undef,e2,hb,?_,hr k hk⟩
  rw[hc k (by omega),List.getElem?_eq_getElem (by omega)];rfl
theorem LsoR.form {w:World}{v:Value}{l:List (List Ob)}(h:LsoR w v l):∃a cap,v= .slice a l.length cap∧l.length≤cap∧cap≤9223372036854775807∧l.length*24≤140737488355328:=by
 obtain⟨a,cap,cs,h1,h2,h3,h4,_⟩:=h;exact⟨a,cap,h1,h2,h3,h4⟩
theorem LsoR.nil (w:World):LsoR w (.slice none 0 0) []:=⟨none,0,[],rfl,Nat.le_refl _,by omega,by decide,.inl rfl,rfl,fun k hk=>by cases hk⟩
def SesR (w:World)(v:Value)(s:Ses):Prop:=∃ov pv fv,v= .agg #[ov,pv,fv]∧ObsR w ov s.obs∧LsoR w pv s.past∧LsoR w fv s.fut
theorem SesR.below {w w':World}{v:Value}{s:Ses}(h:SesR w v s)(hb:Below w.heap.size w w'):SesR w' v s:=by
 obtain⟨ov,pv,fv,e,h1,h2,h3⟩:=h;exact⟨ov,pv,fv,e,h1.below hb,h2.below hb,h3.below hb⟩
def CmdR (w:World)(v:Value)(c:Cmd):Prop:=∃ev vv,v= .agg #[.int .i64 c.kind,.string (str c.name),.string (str c.on),.string (str c.other),.int .i64 c.q,.int .i64 c.g.n,ev,vv]∧EdgesR w ev c.g.es∧IntsR w vv c.vals
theorem CmdR.below {w w':World}{v:Value}{c:Cmd}(h:CmdR w v c)(hb:Below w.heap.size w w'):CmdR w' v c:=by
 obtain⟨ev,vv,e,h1,h2⟩:=h;exact⟨ev,vv,e,h1.below hb,h2.below hb⟩
def ObR (w:World)(v:Value)(x:Ob):Prop:=∃ev dv,v= .agg #[.string (str x.name),.string (str x.on),.int .i64 x.g.n,ev,dv]∧EdgesR w ev x.g.es∧IntsR w dv x.d
theorem ObR.below {w w':World}{v:Value}{x:Ob}(h:ObR w v x)(hb:Below w.heap.size w w'):ObR w' v x:=by
 obtain⟨ev,dv,e,h1,h2⟩:=h;exact⟨ev,dv,e,h1.below hb,h2.below hb⟩
theorem results_cellA {P:Program}{fn:Func}{k:Nat}{t:TypeId}(h:fn.results= #[.cell k t]){tmps:Array Value}{b:Nat}{v:Value}{w:World}(ht:tmps[k]?.getD undef= .pointer (some ⟨b,0,none⟩))
 (hl:(loadVar t ⟨b,0,none⟩).run P w= .ok v w):(results fn tmps).run P w= .ok v w:=by
 simp[results,h,ht,asAddr,hl]
theorem results_cellB {P:Program}{fn:Func}{k k2:Nat}{t:TypeId}(h:fn.results= #[.cell k t,.tmp k2]){tmps:Array Value}{b:Nat}{v:Value}{w:World}(ht:tmps[k]?.getD undef= .pointer (some ⟨b,0,none⟩))
 (hl:(loadVar t ⟨b,0,none⟩).run P w= .ok v w):(results fn tmps).run P w= .ok (.tuple #[v,tmps[k2]?.getD undef]) w:=by
 simp[results,h,ht,asAddr,hl,Sem.run_bind,Result.andThen]
theorem str_toList (l:List UInt8):(str l).toList=l:=by rw[ByteArray.toList_eq];rfl
theorem str_eqb (a b:List UInt8):((str a).toList==(str b).toList)=(a==b):=by rw[str_toList,str_toList]
theorem load_graphV {w:World}{b:Nat}{v0 v1:Value}(h:Blk w b #[v0,v1] 28):(loadVar 28 ⟨b,0,none⟩).run Tryz.prog w= .ok (.agg #[v0,v1]) w:=by
 have hlt:=h.lt;have c0:=h.cell 0;have c1:=h.cell 1;simp only[xG,xH,xI]at c0 c1;go_simp
theorem load_obj {w:World}{b:Nat}{v0 v1 v2 v3 v4:Value}(h:Blk w b #[v0,v1,v2,v3,v4] 67):(loadVar 67 ⟨b,0,none⟩).run Tryz.prog w= .ok (.agg #[v0,v1,v2,v3,v4]) w:=by
 have hlt:=h.lt;have c0:=h.cell 0;have c1:=h.cell 1;have c2:=h.cell 2;have c3:=h.cell 3;have c4:=h.cell 4;simp only[xG,xH,xI]at c0 c1 c2 c3 c4;go_simp
theorem s_place1 (x n:List UInt8)(v1 v2 v3 v4:Value)(nb:Nat)(w:World)(hn:w.cell? ⟨nb,0,none⟩=some (.string (str n)))(hlt:nb<w.heap.size):
 Calls Tryz.prog 124 #[.agg #[.string (str x),v1,v2,v3,v4],.pointer (some ⟨nb,0,none⟩)] w fun e w'=>e= .returned (.bool (x==n))∧Below w.heap.size w w':=by
 have he:=str_eqb x n;have hB:Below w.heap.size w (w.alloc (.cells #[.string (str x),v1,v2,v3,v4] 67)):=by go_grown
 have HB:=hid hB;generalize (x==n)=z at*
 clear hB;go_enter Tryz.func124,Tryz.ntmps124;go_wp2;go_ret;exact⟨rfl,HB.out⟩
theorem s_placeI (l:List Ob)(v:Value)(n:List UInt8)(nb:Nat)(w:World)(hl:ObsR w v l)(hn:w.cell? ⟨nb,0,none⟩=some (.string (str n)))(hlt:nb<w.heap.size):
 Calls Tryz.prog 123 #[v,.func (.func 124) #[] #[.pointer (some ⟨nb,0,none⟩)]] w fun e w'=>e= .returned (.int .i64 (plI l n))∧Below w.heap.size w w':=by
 obtain⟨a,cap,rfl,hcap,hcm,hlen⟩:=hl.form;have HL:=hid hl;have HN:=hid hn;have HLT:=hid hlt;clear hl hn hlt;go_enter Tryz.func123,Tryz.ntmps123;go_wp2_with fail;go_loopw [8] (fun i wr=>∃k:Nat,k≤l.length∧i= .int .i64 k∧Hid (∀ j,j<k→(l[j]?.getD default).name≠n)∧Hid (Below w.heap.size w wr)) (fun i _=>l.length-(intOf i).toNat);case atStart=>exact⟨0,Nat.zero_le _,rfl,fun j hj=>by omega,Below.refl _ _⟩
 case round=>
  obtain⟨k,hk,rfl,HP,HB⟩:=hrel;obtain⟨W,rfl⟩:∃W:World,W=wr:=⟨_,rfl⟩;by_cases hkl:k<l.length
  ·obtain⟨b,off,ev,dv,rfl,hb,c0,c1,c2,c3,c4,he,hd⟩:=(HL.out.below HB.out).at k hkl
   have hk1:(k:Int)<(l.length:Int):=by omega
   have hk0:(0:Int)≤(k:Int):=by omega
   have wk:IntKind.i64.wrap ((k:Int)+1)=(k:Int)+1:=IntWalk.i64_in _ (by omega);have HST:Hid ((l[k]?.getD default).name≠n→∀j,j<k+1→(l[j]?.getD default).name≠n):=fun h j hj=>by
    by_cases e:j=k
    ·subst e;exact h
    ·exact HP.out j (by omega)
   have HF:Hid ((l[k]?.getD default).name=n→plI l n=k):=fun h=>by
    have:=plN_of HP.out hkl h;unfold plI;rw[this,if_pos hkl]
   have hcn:W.cell? ⟨nb,0,none⟩=some (.string (str n)):=(HB.out.cell (p:=⟨nb,0,none⟩) HLT.out).trans HN.out;have hcall:=hid (s_place1 (l[k]?.getD default).name n (.string (str (l[k]?.getD default).on)) (.int .i64 (l[k]?.getD default).g.n) ev dv nb W hcn (Nat.lt_of_lt_of_le HLT.out HB.out.size));clear he hd hcn;generalize l[k]?.getD default=x at*
   by_cases hx:x.name=n
   ·have hxb:(x.name==n)=true:=by simpa using hx
    have hz:=HF.out hx;have HZ:=hid hz;rw[hxb]at hcall;clear hx hxb HF HST hz;go_wp2_with fail;refine hcall.out.mono ?_;rintro e w1 ⟨rfl,hB1⟩;dsimp only;go_wp2_with fail;go_ret;exact⟨ret_int HZ.out.symm,up HB.out hB1⟩
   ·have hxb:(x.name==n)=false:=by simpa using hx
    have hp:=HST.out hx;have HP2:=hid hp;rw[hxb]at hcall;clear hx hxb HF HST hp;go_wp2_with fail;refine hcall.out.mono ?_;rintro e w1 ⟨rfl,hB1⟩;dsimp only;go_wp2_with fail;go_roundw;case rel=>exact⟨k+1,by omega,by go_num,HP2,up HB.out hB1⟩
    case measure=>simp[intOf];omega
  ·obtain rfl:k=l.length:=by omega
   have hz:Hid (plI l n= -1):=by
    show _=_;unfold plI;rw[plN_none HP.out,if_neg (by omega)]
   go_wp2_with fail;go_ret;exact⟨ret_int hz.out.symm,HB.out⟩
theorem s_place (l:List Ob)(v:Value)(n:List UInt8)(w:World)(hl:ObsR w v l):
 Calls Tryz.prog 77 #[v,.string (str n)] w fun e w'=>e= .returned (.int .i64 (plI l n))∧Below w.heap.size w w':=by
 obtain⟨a,cap,rfl,_⟩:=hl.form;have hB:Below w.heap.size w (w.alloc (.cells #[.string (str n)] 9)):=by go_grown
 have hc:=hid (s_placeI l _ n w.heap.size _ (hl.below hB) (by simp) (by simp));have HB:=hid hB;have hmf:∀(fn:Fn) (first cap:Array Value) (w:World),(Instr.makeFunc fn first cap).run Tryz.prog w= .ok (.func fn first cap) w:=fun _ _ _ _=>rfl;clear hl hB;go_enter Tryz.func77,Tryz.ntmps77;go_wp2_with fail;refine hc.out.mono ?_;rintro e w1 ⟨rfl,hB1⟩;dsimp only;go_wp2_with fail;go_ret;exact⟨rfl,up HB.out hB1⟩
theorem plI_lt {l:List Ob}{n:List UInt8}(h:plN l n<l.length):plI l n=plN l n:=if_pos h
theorem plI_no {l:List Ob}{n:List UInt8}(h:¬plN l n<l.length):plI l n= -1:=if_neg h
def figB (l:List Ob)(n:List UInt8):G×Bool:=if isG l n then((obOf l n).g,true)else(⟨0,[]⟩,false)
def RetFig (l:List Ob)(n:List UInt8)(w:World)(e:Ending)(w':World):Prop:=∃ev,e= .returned (.tuple #[.agg #[.int .i64 (figB l n).1.n,ev],.bool (isG l n)])∧EdgesR w' ev (figB l n).1.es∧Below w.heap.size w w'
def RetFigW (l:List Ob)(n:List UInt8)(w0 w:World)(e:Ending)(w':World):Prop:=∃ev,e= .returned (.tuple #[.agg #[.int .i64 (figB l n).1.n,ev],.bool (isG l n)])∧EdgesR w0 ev (figB l n).1.es∧Below w.heap.size w w'
theorem EdgesR.nil (w:World):EdgesR w (.slice none 0 0) []:=⟨none,0,rfl,Nat.le_refl _,by omega,by decide,.inl rfl⟩
theorem IntsR.nil (w:World):IntsR w (.slice none 0 0) []:=⟨none,0,rfl,Nat.le_refl _,by omega,by decide,.inl rfl⟩
theorem ObsR.atB {w w':World}{a:Option Addr}{n cap:Nat}{l:List Ob}(h:ObsR w (.slice a n cap) l)(hB:Below w.heap.size w w')(k:Nat)(hk:k<l.length):
 ∃b off ea ec da dc,a=some ⟨b,off,none⟩∧b<w'.heap.size∧w'.cell? ⟨b,off+k*5,none⟩=some (.string (str (l[k]?.getD default).name))∧w'.cell? ⟨b,off+k*5+1,none⟩=some (.string (str (l[k]?.getD default).on))∧w'.cell? ⟨b,off+k*5+2,none⟩=some (.int .i64 (l[k]?.getD default).g.n)∧
  w'.cell? ⟨b,off+k*5+3,none⟩=some (.slice ea (l[k]?.getD default).g.es.length ec)∧w'.cell? ⟨b,off+k*5+4,none⟩=some (.slice da (l[k]?.getD default).d.length dc)∧
  EdgesR w (.slice ea (l[k]?.getD default).g.es.length ec) (l[k]?.getD default).g.es∧IntsR w (.slice da (l[k]?.getD default).d.length dc) (l[k]?.getD default).d:=by
 obtain⟨b,off,ev,dv,e,hb,c0,c1,c2,c3,c4,he,hd⟩:=h.at k hk;obtain⟨ea,ec,rfl,_⟩:=id he;obtain⟨da,dc,rfl,_⟩:=id hd;exact⟨b,off,ea,ec,da,dc,e,Nat.lt_of_lt_of_le hb hB.size,(hB.cell hb).trans c0,(hB.cell hb).trans c1,(hB.cell hb).trans c2,(hB.cell hb).trans c3,(hB.cell hb).trans c4,he,hd⟩
theorem blk2 {w:World}{r:Nat}{x0 x1:Value}{t:TypeId}(h:Blk w r #[x0,x1] t)(y0 y1:Value):Blk ((w.setCell ⟨r,0,none⟩ y0).setCell ⟨r,1,none⟩ y1) r #[y0,y1] t:=by
 have:=(h.set 0 y0).set 1 y1;simpa using this
theorem blk5 {w:World}{r:Nat}{x0 x1 x2 x3 x4:Value}{t:TypeId}(h:Blk w r #[x0,x1,x2,x3,x4] t)(y0 y1 y2 y3 y4:Value):Blk (((((w.setCell ⟨r,0,none⟩ y0).setCell ⟨r,1,none⟩ y1).setCell ⟨r,2,none⟩ y2).setCell ⟨r,3,none⟩ y3).setCell ⟨r,4,none⟩ y4) r #[y0,y1,y2,y3,y4] t:=by
 have:=((((h.set 0 y0).set 1 y1).set 2 y2).set 3 y3).set 4 y4;simpa using this
theorem below2 {B:Nat}{W0 w:World}{r:Nat}(h:Below B W0 w)(hr:B≤r)(y0 y1:Value):Below B W0 ((w.setCell ⟨r,0,none⟩ y0).setCell ⟨r,1,none⟩ y1):=(h.setCell (p:=⟨r,0,none⟩) hr _).setCell (p:=⟨r,1,none⟩) hr _
theorem below5 {B:Nat}{W0 w:World}{r:Nat}(h:Below B W0 w)(hr:B≤r)(y0 y1 y2 y3 y4:Value):Below B W0 (((((w.setCell ⟨r,0,none⟩ y0).setCell ⟨r,1,none⟩ y1).setCell ⟨r,2,none⟩ y2).setCell ⟨r,3,none⟩ y3).setCell ⟨r,4,none⟩ y4):=
 ((((h.setCell (p:=⟨r,0,none⟩) hr _).setCell (p:=⟨r,1,none⟩) hr _).setCell (p:=⟨r,2,none⟩) hr _).setCell (p:=⟨r,3,none⟩) hr _).setCell (p:=⟨r,4,none⟩) hr _
theorem s_figureW (l:List Ob)(v:Value)(n:List UInt8)(w0 w:World)(hl:ObsR w0 v l)(hw:Below w0.heap.size w0 w):
 Calls Tryz.prog 142 #[v,.string (str n)] w (RetFigW l n w0 w):=by
 obtain⟨a,cap,rfl,hcap,hcm,hlen⟩:=hl.form;have hB:Below w.heap.size w (w.alloc (.cells #[.int .i64 0,.slice none 0 0] 28)):=by go_grown
 have hX:=hid (Blk.new w #[.int .i64 0,.slice none 0 0] 28);have hc:=hid (s_place l _ n _ ((hl.below hw).below hB));have HL:=hid hl;have HB:=hid hB;have HW:=hid hw;generalize hW:w.alloc (.cells #[.int .i64 0,.slice none 0 0] 28)=W0 at*
 clear hl hB hw;go_enter Tryz.func142,Tryz.ntmps142;go_wp2_with fail;clear hW;refine hc.out.mono ?_;rintro e w1 ⟨rfl,hB1⟩;have HB1:=hid (up HB.out hB1);have hX1:=hid (hX.out.below hB1);clear hB1 hc hX;have lx:=hX1.out.lt;have x0:=hX1.out.cell 0;have x1:=hX1.out.cell 1;simp only[xG,xH,xI]at x0 x1;have f0:=hX1.out.frozen 0;have f1:=hX1.out.frozen 1;have HFG:Hid (figB l n=if isG l n then((obOf l n).g,true)else(⟨0,[]⟩,false)):=rfl;by_cases hp:plN l n<l.length
 ·rw[plI_lt hp]
  obtain⟨b,off,ea,ec,da,dc,rfl,hb,c0,c1,c2,c3,c4,he,hd⟩:=HL.out.atB (up HW.out HB1.out) _ hp;have hk1:((plN l n:Nat):Int)<(l.length:Int):=by omega
  have hk0:(0:Int)≤((plN l n:Nat):Int):=by omega
  have hkn:¬((plN l n:Nat):Int)<0:=by omega
  have HE:=hid he;have HOB:Hid (obOf l n=l[plN l n]?.getD default):=rfl;have HIS:Hid (isG l n=decide ((l[plN l n]?.getD default).on=[])):=by
   show _=_;unfold isG;rw[decide_eq_true hp,Bool.true_and];rfl
  clear hd hp he;generalize l[plN l n]?.getD default=x at*
  generalize plN l n=k at*
  have hon:=isE x.on;by_cases hx:x.on=[]
  ·have hz:Hid (isG l n=true):=by show _=_;rw[HIS.out];simpa using hx
   have hf:Hid (figB l n=(x.g,true)):=by show _=_;rw[HFG.out,hz.out,HOB.out];rfl
   replace hon:(str x.on).toList.isEmpty=true:=by rw[hon,hx];rfl
   generalize str x.on=so at*
   clear hx HIS HFG HOB;dsimp only;go_wp2_with fail;refine bodyPost_ret (results_cellB rfl rfl (load_graphV (blk2 hX1.out _ _))) rfl ⟨.slice ea x.g.es.length ec,?_,?_,below2 HB1.out (Nat.le_refl _) _ _⟩
   ·rw[hf.out,hz.out];rfl
   ·rw[hf.out];exact HE.out
  ·have hz:Hid (isG l n=false):=by show _=_;rw[HIS.out];simpa using hx
   have hf:Hid (figB l n=(⟨0,[]⟩,false)):=by show _=_;rw[HFG.out,hz.out];rfl
   have hne:x.on.isEmpty=false:=by simpa using hx
   rw[hne]at hon;generalize str x.on=so at*
   clear hx HIS HFG HOB hne;dsimp only;go_wp2_with fail;refine bodyPost_ret (results_cellB rfl rfl (load_graphV (blk2 hX1.out _ _))) rfl ⟨.slice none 0 0,?_,?_,below2 HB1.out (Nat.le_refl _) _ _⟩
   ·rw[hf.out,hz.out];rfl
   ·rw[hf.out];exact EdgesR.nil _
 ·rw[plI_no hp]
  have hz:Hid (isG l n=false):=by show _=_;unfold isG;rw[decide_eq_false hp,Bool.false_and]
  have hf:Hid (figB l n=(⟨0,[]⟩,false)):=by show _=_;rw[HFG.out,hz.out];rfl
  clear hp HFG;dsimp only;go_wp2_with fail;refine bodyPost_ret (results_cellB rfl rfl (load_graphV (blk2 hX1.out _ _))) rfl ⟨.slice none 0 0,?_,?_,below2 HB1.out (Nat.le_refl _) _ _⟩
  ·rw[hf.out,hz.out];rfl
  ·rw[hf.out];exact EdgesR.nil _
theorem s_figure (l:List Ob)(v:Value)(n:List UInt8)(w:World)(hl:ObsR w v l):Calls Tryz.prog 142 #[v,.string (str n)] w (RetFig l n w):=
 (s_figureW l v n w w hl (Below.refl _ _)).mono fun _ _ ⟨ev,e,he,hB⟩=>⟨ev,e,he.below hB,hB⟩
def divB (l:List Ob)(n:List UInt8):Ob:=if isD l n then obOf l n else ob0
def RetDiv (l:List Ob)(n:List UInt8)(w:World)(e:Ending)(w':World):Prop:=∃v,e= .returned (.tuple #[v,.bool (isD l n)])∧ObR w' v (divB l n)∧Below w.heap.size w w'
def RetDivW (l:List Ob)(n:List UInt8)(w0 w:World)(e:Ending)(w':World):Prop:=∃v,e= .returned (.tuple #[v,.bool (isD l n)])∧ObR w0 v (divB l n)∧Below w.heap.size w w'
theorem s_divisorW (l:List Ob)(v:Value)(n:List UInt8)(w0 w:World)(hl:ObsR w0 v l)(hw:Below w0.heap.size w0 w):
 Calls Tryz.prog 139 #[v,.string (str n)] w (RetDivW l n w0 w):=by
 obtain⟨a,cap,rfl,hcap,hcm,hlen⟩:=hl.form;have hB:Below w.heap.size w (w.alloc (.cells #[.string ⟨#[]⟩,.string ⟨#[]⟩,.int .i64 0,.slice none 0 0,.slice none 0 0] 67)):=by go_grown
 have hX:=hid (Blk.new w #[.string ⟨#[]⟩,.string ⟨#[]⟩,.int .i64 0,.slice none 0 0,.slice none 0 0] 67);have hc:=hid (s_place l _ n _ ((hl.below hw).below hB));have HL:=hid hl;have HB:=hid hB;have HW:=hid hw;generalize hW:w.alloc (.cells #[.string ⟨#[]⟩,.string ⟨#[]⟩,.int .i64 0,.slice none 0 0,.slice none 0 0] 67)=W0 at*
 clear hl hB hw;go_enter Tryz.func139,Tryz.ntmps139;go_wp2_with fail;clear hW;refine hc.out.mono ?_;rintro e w1 ⟨rfl,hB1⟩;have HB1:=hid (up HB.out hB1);have hX1:=hid (hX.out.below hB1);clear hB1 hc hX;have lx:=hX1.out.lt;have x0:=hX1.out.cell 0;have x1:=hX1.out.cell 1;have x2:=hX1.out.cell 2;have x3:=hX1.out.cell 3;have x4:=hX1.out.cell 4;simp only[xG,xH,xI]at x0 x1 x2 x3 x4;have f0:=hX1.out.frozen 0;have f1:=hX1.out.frozen 1;have f2:=hX1.out.frozen 2;have f3:=hX1.out.frozen 3;have f4:=hX1.out.frozen 4;have HFG:Hid (divB l n=if isD l n then obOf l n else ob0):=rfl;by_cases hp:plN l n<l.length
 ·rw[plI_lt hp]
  obtain⟨b,off,ea,ec,da,dc,rfl,hb,c0,c1,c2,c3,c4,he,hd⟩:=HL.out.atB (up HW.out HB1.out) _ hp;have hk1:((plN l n:Nat):Int)<(l.length:Int):=by omega
  have hk0:(0:Int)≤((plN l n:Nat):Int):=by omega
  have hkn:¬((plN l n:Nat):Int)<0:=by omega
  have HE:=hid he;have HD:=hid hd;have HOB:Hid (obOf l n=l[plN l n]?.getD default):=rfl;have HIS:Hid (isD l n= !decide ((l[plN l n]?.getD default).on=[])):=by
   show _=_;unfold isD;rw[decide_eq_true hp,Bool.true_and];rfl
  clear hd hp he;generalize l[plN l n]?.getD default=x at*
  generalize plN l n=k at*
  have hon:=isE x.on;by_cases hx:x.on=[]
  ·have hz:Hid (isD l n=false):=by show _=_;rw[HIS.out];simpa using hx
   have hf:Hid (divB l n=ob0):=by show _=_;rw[HFG.out,hz.out];rfl
   replace hon:(str x.on).toList.isEmpty=true:=by rw[hon,hx];rfl
   generalize str x.on=so at*
   clear hx HIS HFG HOB;dsimp only;go_wp2_with fail;refine bodyPost_ret (results_cellB rfl rfl (load_obj (blk5 hX1.out _ _ _ _ _))) rfl ⟨.agg #[.string (str []),.string (str []),.int .i64 0,.slice none 0 0,.slice none 0 0],?_,?_,below5 HB1.out (Nat.le_refl _) _ _ _ _ _⟩
   ·rw[hz.out];rfl
   ·rw[hf.out];exact⟨_,_,rfl,EdgesR.nil _,IntsR.nil _⟩
  ·have hz:Hid (isD l n=true):=by show _=_;rw[HIS.out];simpa using hx
   have hf:Hid (divB l n=x):=by show _=_;rw[HFG.out,hz.out,HOB.out];rfl
   have hne:x.on.isEmpty=false:=by simpa using hx
   rw[hne]at hon;obtain⟨so,hso⟩:∃so,str x.on=so:=⟨_,rfl⟩;rw[hso]at hon c1;have HSO:=hid hso;clear hso;clear hx HIS HFG HOB hne;dsimp only;go_wp2_with fail;refine bodyPost_ret (results_cellB rfl rfl (load_obj (blk5 hX1.out _ _ _ _ _))) rfl ⟨.agg #[.string (str x.name),.string so,.int .i64 x.g.n,.slice ea x.g.es.length ec,.slice da x.d.length dc],?_,?_,below5 HB1.out (Nat.le_refl _) _ _ _ _ _⟩
   ·rw[hz.out];rfl
   ·rw[hf.out];exact⟨_,_,by rw[HSO.out],HE.out,HD.out⟩
 ·rw[plI_no hp]
  have hz:Hid (isD l n=false):=by show _=_;unfold isD;rw[decide_eq_false hp,Bool.false_and]
  have hf:Hid (divB l n=ob0):=by show _=_;rw[HFG.out,hz.out];rfl
  clear hp HFG;dsimp only;go_wp2_with fail;refine bodyPost_ret (results_cellB rfl rfl (load_obj (blk5 hX1.out _ _ _ _ _))) rfl ⟨.agg #[.string (str []),.string (str []),.int .i64 0,.slice none 0 0,.slice none 0 0],?_,?_,below5 HB1.out (Nat.le_refl _) _ _ _ _ _⟩
  ·rw[hz.out];rfl
  ·rw[hf.out];exact⟨_,_,rfl,EdgesR.nil _,IntsR.nil _⟩
theorem s_divisor (l:List Ob)(v:Value)(n:List UInt8)(w:World)(hl:ObsR w v l):Calls Tryz.prog 139 #[v,.string (str n)] w (RetDiv l n w):=
 (s_divisorW l v n w w hl (Below.refl _ _)).mono fun _ _ ⟨x,e,hx,hB⟩=>⟨x,e,hx.below hB,hB⟩
theorem s_zero (g:G)(gv:Value)(w:World)(hg:GrR w gv g):
 Calls Tryz.prog 58 #[gv] w fun e w'=>e= .returned (.bool (zeroG g))∧Below w.heap.size w w':=by
 obtain⟨ev,rfl,a,cap,rfl,hcap,hcm,hlen,hc⟩:=hg;have HZ:Hid (zeroG g=((g.n==0)&&((g.es.length:Int)==0))):=by
  show _=_;unfold zeroG;rw[Bool.eq_iff_iff];simp[List.length_eq_zero_iff]
 clear hc hlen hcap hcm;cases h0:(g.n==0)with
 |false=>
  go_enter Tryz.func58,Tryz.ntmps58
  go_wp2_with fail
  all_goals(go_ret;exact⟨by rw[HZ.out,h0];rfl,by go_grown⟩)
 |true=>
  go_enter Tryz.func58,Tryz.ntmps58
  go_wp2_with fail
  all_goals(go_ret;exact⟨by rw[HZ.out,h0];rfl,by go_grown⟩)
theorem s_object (l:List Ob)(v xv:Value)(x:Ob)(w:World)(hl:ObsR w v l)(hx:ObR w xv x):
 Calls Tryz.prog 127 #[v,xv] w fun e w'=>e= .returned (.int .i64 (obErr l x))∧Below w.heap.size w w':=by
 obtain⟨ev,dv,rfl,he,hd⟩:=hx;obtain⟨ea,ec,rfl,_⟩:=id he;obtain⟨da,dc,rfl,_⟩:=id hd;have hB:Below w.heap.size w (w.alloc (.cells #[.string (str x.name),.string (str x.on),.int .i64 x.g.n,.slice ea x.g.es.length ec,.slice da x.d.length dc] 67)):=by go_grown
 have hX:=hid (Blk.new w #[.string (str x.name),.string (str x.on),.int .i64 x.g.n,.slice ea x.g.es.length ec,.slice da x.d.length dc] 67);have HG:Hid (GrR w (.agg #[.int .i64 x.g.n,.slice ea x.g.es.length ec]) x.g):=⟨_,rfl,he⟩;have HL:=hid hl;have HD:=hid hd;have HB:=hid hB;have hon:=isE x.on;generalize hz:obErr l x=z;unfold obErr at hz;clear hl he hd hB;by_cases hx:x.on=[]
 ·rw[if_pos hx]at hz
  replace hon:(str x.on).toList.isEmpty=true:=by rw[hon,hx];rfl
  generalize str x.on=so at*
  by_cases hc:checkErr x.g=0
  ·have hb:(checkErr x.g !=0)=false:=by simpa using hc
   rw[if_neg (by simpa using hc)]at hz;clear hc hx;by_cases hd0:(0:Int)<x.d.length
   case pos=>
    rw[if_pos (by intro h;rw[h]at hd0;simp at hd0)]at hz;have HE:=hid hz;clear hz;go_enter Tryz.func127,Tryz.ntmps127;go_wp2_with (go_at_call 103;refine(p_Check x.g _ _ (HG.out.below HB.out)).mono ?_;rintro e w1 ⟨rfl,hB1⟩;obtain⟨r1,r2⟩:=bcell hB1);all_goals(go_ret;exact⟨ret_int HE.out,up HB.out hB1⟩)
   case neg=>
    have h0:x.d=[]:=by simpa using hd0
    rw[if_neg (by simpa using h0)]at hz;have HE:=hid hz;clear hz h0;go_enter Tryz.func127,Tryz.ntmps127;go_wp2_with (go_at_call 103;refine(p_Check x.g _ _ (HG.out.below HB.out)).mono ?_;rintro e w1 ⟨rfl,hB1⟩;obtain⟨r1,r2⟩:=bcell hB1);all_goals(go_ret;exact⟨ret_int HE.out,up HB.out hB1⟩)
  ·have hb:(checkErr x.g !=0)=true:=by simpa using hc
   rw[if_pos (by simpa using hc)]at hz;have HE:=hid hz;clear hc hx hz;go_enter Tryz.func127,Tryz.ntmps127;go_wp2_with (go_at_call 103;refine(p_Check x.g _ _ (HG.out.below HB.out)).mono ?_;rintro e w1 ⟨rfl,hB1⟩;obtain⟨r1,r2⟩:=bcell hB1);all_goals(go_ret;exact⟨ret_int HE.out,up HB.out hB1⟩)
 ·rw[if_neg hx]at hz
  have hne:x.on.isEmpty=false:=by simpa using hx
  rw[hne]at hon;have HF:∀W,ObsR W v l→Calls Tryz.prog 142 #[v,.string (str x.on)] W (RetFig l x.on W):=fun W h=>s_figure l v x.on W h;have HF:=hid HF;have hfg:Hid (isG l x.on=true→figB l x.on=((obOf l x.on).g,true)):=by intro h;unfold figB;rw[if_pos h]
  generalize str x.on=so at*
  clear hx hne;cases hg:isG l x.on with
  |false=>
   rw[if_pos hg]at hz
   have HE:=hid hz
   clear hz
   go_enter Tryz.func127,Tryz.ntmps127
   go_wp2_with (go_at_call 142;refine(HF.out _ (HL.out.below HB.out)).mono ?_;rintro e w1 ⟨fv,rfl,hfe,hB1⟩;rw[hg];obtain⟨fa,fc,rfl,_⟩:=id hfe;obtain⟨r1,r2⟩:=bcell hB1;have hs1:=hB1.size;(simp only[World.size_alloc]at hs1);have u1:w.heap.size<w1.heap.size:=(by omega))
   all_goals(go_ret;exact⟨ret_int HE.out,up (up HB.out hB1) (by go_grown)⟩)
  |true=>
   rw[if_neg (by rw[hg];simp)]at hz
   have HFG:=hid (hfg.out hg)
   cases hzg:zeroG x.g with
   |false=>
    rw[if_pos hzg]at hz
    have HE:=hid hz
    clear hz
    go_enter Tryz.func127,Tryz.ntmps127
    go_wp2_with (first
     |(go_at_call 142;refine(HF.out _ (HL.out.below HB.out)).mono ?_;rintro e w1 ⟨fv,rfl,hfe,hB1⟩;rw[hg];obtain⟨fa,fc,rfl,_⟩:=id hfe;obtain⟨r1,r2⟩:=bcell hB1;have hs1:=hB1.size;(simp only[World.size_alloc]at hs1);have u1:w.heap.size<w1.heap.size:=(by omega))
     |(go_at_call 58;refine(s_zero x.g _ _ ((HG.out.below (up HB.out hB1)).below (by go_grown))).mono ?_;rintro e w2 ⟨rfl,hB2⟩;rw[hzg];obtain⟨r3,r4⟩:=bcell hB2;have hs2:=hB2.size;(simp only[World.size_alloc]at hs2);have u2:w.heap.size<w2.heap.size:=(by omega);have u3:w1.heap.size<w2.heap.size:=(by omega)))
    all_goals(go_ret;exact⟨ret_int HE.out,up (up (up HB.out hB1) (by go_grown)) hB2⟩)
   |true=>
    rw[if_neg (by rw[hzg];simp)]at hz
    have HE:=hid hz
    clear hz
    go_enter Tryz.func127,Tryz.ntmps127
    go_wp2_with (first
     |(go_at_call 142;refine(HF.out _ (HL.out.below HB.out)).mono ?_;rintro e w1 ⟨fv,rfl,hfe,hB1⟩;rw[hg];obtain⟨fa,fc,rfl,_⟩:=id hfe;obtain⟨r1,r2⟩:=bcell hB1;have hs1:=hB1.size;(simp only[World.size_alloc]at hs1);have u1:w.heap.size<w1.heap.size:=(by omega))
     |(go_at_call 58;refine(s_zero x.g _ _ ((HG.out.below (up HB.out hB1)).below (by go_grown))).mono ?_;rintro e w2 ⟨rfl,hB2⟩;rw[hzg];obtain⟨r3,r4⟩:=bcell hB2;have hs2:=hB2.size;(simp only[World.size_alloc]at hs2);have u2:w.heap.size<w2.heap.size:=(by omega);have u3:w1.heap.size<w2.heap.size:=(by omega))
     |(go_at_call 104;refine(p_chips x.d _ _ _ (HD.out.below (up (up (up HB.out hB1) (by go_grown)) hB2))).mono ?_;rintro e w3 ⟨rfl,rfl⟩))
    all_goals(go_ret;exact⟨ret_int (by rw[← HE.out,HFG.out]),up (up (up HB.out hB1) (by go_grown)) hB2⟩)
def SmOb (x:Ob):Prop:=x.name.length≤140737488355328∧x.on.length≤140737488355328
def SmObs (l:List Ob):Prop:=∀k,k<l.length→SmOb (l[k]?.getD default)
theorem leN_str (a b:List UInt8):(Op.bytesLess (str a).toList (str b).toList||(str a).toList==(str b).toList)=leN a b:=by rw[str_toList,str_toList];rfl
theorem s_objects (l:List Ob)(v:Value)(w:World)(hl:ObsR w v l)(hs:SmObs l):
 Calls Tryz.prog 79 #[v] w fun e w'=>e= .returned (.int .i64 (obsErr l))∧Below w.heap.size w w':=by
 obtain⟨a,cap,rfl,hcap,hcm,hlen⟩:=hl.form;generalize hz:obsErr l=z;unfold obsErr at hz;have HL:=hid hl;have HS:=hid hs;clear hl hs;by_cases h1:32<l.length
 ·rw[if_pos h1]at hz
  subst hz;have h1':(32:Int)<l.length:=by omega
  go_enter Tryz.func79,Tryz.ntmps79;go_wp2_with fail;all_goals(go_ret;exact⟨rfl,Below.refl _ _⟩)
 rw[if_neg h1]at hz;have h1':¬(32:Int)<l.length:=by omega
 have HZ:=hid hz;clear hz;go_enter Tryz.func79,Tryz.ntmps79;go_wp2_with fail
 go_loopw [12] (fun i wr=>∃k:Nat,k≤l.length∧i= .int .i64 k∧Hid (fstE (obAt l) k (l.length-k)=z)∧Below w.heap.size w wr)
  (fun i _=>l.length-(intOf i).toNat)
 case atStart=>exact⟨0,Nat.zero_le _,rfl,HZ,Below.refl _ _⟩
 case round=>
  obtain⟨k,hk,rfl,HZ,hB⟩:=hrel;have HB:=hid hB;clear hB;by_cases hlt:k<l.length
  ·have hlt':(k:Int)<(l.length:Int):=by omega
   have hk0:(0:Int)≤((k:Nat):Int):=by omega
   have hFS:=fstE_step (f:=obAt l) hlt;generalize hoa:obAt l k=oa at hFS;unfold obAt at hoa;have HFS:=hid hFS;have hsn:=(HS.out k hlt).1;clear hFS;obtain⟨b,off,ea,ec,da,dc,rfl,hb,c0,c1,c2,c3,c4,he,hd⟩:=HL.out.atB HB.out _ hlt;have hw:=hid (p_Word (l[k]?.getD default).name);have hXO:Hid (∀ W,Below w.heap.size w W→ObR W (.agg #[.string (str (l[k]?.getD default).name),.string (str (l[k]?.getD default).on),.int .i64 (l[k]?.getD default).g.n,.slice ea (l[k]?.getD default).g.es.length ec,.slice da (l[k]?.getD default).d.length dc]) (l[k]?.getD default)):=fun W hW=>⟨_,_,rfl,he.below hW,hd.below hW⟩;clear he hd
   generalize (l[k]?.getD default)=x at*
   by_cases hwz:wordErr x.name=0
   case neg=>
    have hwb:(wordErr x.name !=0)=true:=by simpa using hwz
    rw[if_pos hwz]at hoa;subst hoa;clear hXO;go_wp2_with (go_at_call 102;refine(hw.out _ (by omega)).mono ?_;rintro e w1 ⟨rfl,hB1⟩;obtain⟨r1,r2⟩:=bcell hB1;have hs1:=hB1.size;(simp only[World.size_alloc]at hs1);have u1:wr.heap.size<w1.heap.size:=(by omega);have u2:b<w1.heap.size:=(by omega));go_ret;exact⟨ret_int (by rw[← HZ.out,HFS.out,if_pos hwz]),up HB.out (up (W:=wr.alloc _) (by go_grown) hB1)⟩
   case pos=>
    have hwb:(wordErr x.name !=0)=false:=by simpa using hwz
    rw[if_neg (by simpa using hwz)]at hoa;have wk:IntKind.i64.wrap ((k:Int)+1)=(k:Int)+1:=IntWalk.i64_in _ (by omega);by_cases hkz:k=0
    case pos=>
     have hkp:decide (0<k)=false:=by simp[hkz]
     rw[if_neg (by simp[hkz])]at hoa;clear hkz;go_wp2_with (go_at_call 102;refine(hw.out _ (by omega)).mono ?_;rintro e w1 ⟨rfl,hB1⟩;obtain⟨r1,r2⟩:=bcell hB1;have hs1:=hB1.size;(simp only[World.size_alloc]at hs1);have u1:wr.heap.size<w1.heap.size:=(by omega);have u2:b<w1.heap.size:=(by omega));go_quiet (fail);by_cases hoz:obErr l x=0
     case neg=>
      have hob:(obErr l x !=0)=true:=by simpa using hoz
      go_wp2_with (go_at_call 127;refine(s_object l _ _ _ _ (HL.out.below (up HB.out (up (W:=wr.alloc _) (by go_grown) (below_dN hB1 _)))) (hXO.out _ (up HB.out (up (W:=wr.alloc _) (by go_grown) (below_dN hB1 _))))).mono ?_;rintro e w2 ⟨rfl,hB2⟩;obtain⟨r3,r4⟩:=bcell hB2);go_ret;exact⟨ret_int (by rw[← HZ.out,HFS.out,←hoa,if_pos hoz]),up (up HB.out (up (W:=wr.alloc _) (by go_grown) (below_dN hB1 _))) hB2⟩
     case pos=>
      have hob:(obErr l x !=0)=false:=by simpa using hoz
      go_wp2_with (go_at_call 127;refine(s_object l _ _ _ _ (HL.out.below (up HB.out (up (W:=wr.alloc _) (by go_grown) (below_dN hB1 _)))) (hXO.out _ (up HB.out (up (W:=wr.alloc _) (by go_grown) (below_dN hB1 _))))).mono ?_;rintro e w2 ⟨rfl,hB2⟩;obtain⟨r3,r4⟩:=bcell hB2);go_roundw;case rel=>exact⟨k+1,by omega,by go_num,hid (by have:=HZ.out;rw[HFS.out,←hoa,if_neg (by simpa using hoz)]at this;exact this),up (up HB.out (up (W:=wr.alloc _) (by go_grown) (below_dN hB1 _))) hB2⟩
      case measure=>simp[intOf];omega
    case neg=>
     obtain⟨j,hj⟩:∃j:Nat,(k:Int)-1=(j:Int):=⟨k-1,by omega⟩;have hkp:decide (0<k)=true:=by simp;omega
     have hj1:k-1=j:=by omega
     have hjl:j<l.length:=by omega
     have hjl':(j:Int)<(l.length:Int):=by omega
     have hj0:(0:Int)≤(j:Int):=by omega
     have wj:IntKind.i64.wrap ((k:Int)-1)=(j:Int):=by rw[hj];exact IntWalk.i64_in _ (by omega)
     obtain⟨b',off',_,_,_,_,e,_,p0,_⟩:=HL.out.atB HB.out j hjl;injection e with e
     injection e with e1 e2
     subst e1 e2;rw[hj1]at hoa;generalize (l[j]?.getD default)=y at*
     clear hkz;cases hle:leN x.name y.name with
     |true=>
      have hll:=(leN_str x.name y.name).trans hle
      rw[if_pos (by rw[hkp,hle];rfl)]at hoa
      go_wp2_with (go_at_call 102;refine(hw.out _ (by omega)).mono ?_;rintro e w1 ⟨rfl,hB1⟩;obtain⟨r1,r2⟩:=bcell hB1;have hs1:=hB1.size;(simp only[World.size_alloc]at hs1);have u1:wr.heap.size<w1.heap.size:=(by omega);have u2:b<w1.heap.size:=(by omega))
      go_quiet (fail)
      go_wp2_with fail
      go_ret
      exact⟨ret_int (by rw[← HZ.out,HFS.out,←hoa];rfl),up HB.out (up (W:=wr.alloc _) (by go_grown) (below_dN hB1 _))⟩
     |false=>
      have hll:=(leN_str x.name y.name).trans hle
      rw[if_neg (by rw[hkp,hle];decide)]at hoa
      go_wp2_with (go_at_call 102;refine(hw.out _ (by omega)).mono ?_;rintro e w1 ⟨rfl,hB1⟩;obtain⟨r1,r2⟩:=bcell hB1;have hs1:=hB1.size;(simp only[World.size_alloc]at hs1);have u1:wr.heap.size<w1.heap.size:=(by omega);have u2:b<w1.heap.size:=(by omega))
      go_quiet (fail)
      by_cases hoz:obErr l x=0
      case neg=>
       have hob:(obErr l x !=0)=true:=by simpa using hoz
       go_wp2_with (go_at_call 127;refine(s_object l _ _ _ _ (HL.out.below (up HB.out (up (W:=wr.alloc _) (by go_grown) (below_dN hB1 _)))) (hXO.out _ (up HB.out (up (W:=wr.alloc _) (by go_grown) (below_dN hB1 _))))).mono ?_;rintro e w2 ⟨rfl,hB2⟩;obtain⟨r3,r4⟩:=bcell hB2);go_ret;exact⟨ret_int (by rw[← HZ.out,HFS.out,←hoa,if_pos hoz]),up (up HB.out (up (W:=wr.alloc _) (by go_grown) (below_dN hB1 _))) hB2⟩
      case pos=>
       have hob:(obErr l x !=0)=false:=by simpa using hoz
       go_wp2_with (go_at_call 127;refine(s_object l _ _ _ _ (HL.out.below (up HB.out (up (W:=wr.alloc _) (by go_grown) (below_dN hB1 _)))) (hXO.out _ (up HB.out (up (W:=wr.alloc _) (by go_grown) (below_dN hB1 _))))).mono ?_;rintro e w2 ⟨rfl,hB2⟩;obtain⟨r3,r4⟩:=bcell hB2);go_roundw;case rel=>exact⟨k+1,by omega,by go_num,hid (by have:=HZ.out;rw[HFS.out,←hoa,if_neg (by simpa using hoz)]at this;exact this),up (up HB.out (up (W:=wr.alloc _) (by go_grown) (below_dN hB1 _))) hB2⟩
       case measure=>simp[intOf];omega
  ·have hlt':¬(k:Int)<(l.length:Int):=by omega
   go_wp2_with fail;go_ret;exact⟨ret_int (by have:=HZ.out;rw[show l.length-k=0 by omega]at this;exact this),HB.out⟩
def SmLs (ls:List (List Ob)):Prop:=∀k,k<ls.length→SmObs (ls[k]?.getD [])
def SmSes (s:Ses):Prop:=SmObs s.obs∧SmLs s.past∧SmLs s.fut
def twoE (p f:Int)(k:Nat):Int:=if k=0 then(if p≠0 then p else f)else if k=1 then f else 0
def lsAt (s:Ses)(k:Nat):List (List Ob):=if k=0 then s.past else s.fut
theorem twoE_step (s:Ses){k:Nat}(h:k<2):twoE (lsErr s.past) (lsErr s.fut) k=if lsErr (lsAt s k)≠0 then lsErr (lsAt s k)else twoE (lsErr s.past) (lsErr s.fut) (k+1):=by
 match k,h with
 |0,_=>rfl
 |1,_=>
  show lsErr s.fut=if lsErr s.fut≠0 then lsErr s.fut else 0
  split<;>omega
theorem LsoR.atB {w w':World}{a:Option Addr}{n cap:Nat}{ls:List (List Ob)}(h:LsoR w (.slice a n cap) ls)(hB:Below w.heap.size w w')(k:Nat)(hk:k<ls.length):
 ∃b off la lc,a=some ⟨b,off,none⟩∧b<w'.heap.size∧w'.cell? ⟨b,off+k,none⟩=some (.slice la (ls[k]?.getD []).length lc)∧ObsR w (.slice la (ls[k]?.getD []).length lc) (ls[k]?.getD []):=by
 obtain⟨b,off,lv,e,hb,c0,h0⟩:=h.at k hk;obtain⟨la,lc,rfl,_⟩:=h0.form;exact⟨b,off,la,lc,e,Nat.lt_of_lt_of_le hb hB.size,(hB.cell hb).trans c0,h0⟩
def TwoC (w:World)(b:Nat)(cs:Array Value):Prop:=b<w.heap.size∧∀j,j<2→w.cell? ⟨b,j,none⟩=cs[j]?
theorem TwoC.below {w w':World}{b:Nat}{cs:Array Value}(h:TwoC w b cs)(hB:Below w.heap.size w w'):TwoC w' b cs:=
 ⟨Nat.lt_of_lt_of_le h.1 hB.size,fun j hj=>(hB.cell (p:=⟨b,j,none⟩) h.1).trans (h.2 j hj)⟩
theorem TwoC.new (w:World)(x y:Value)(t:TypeId):TwoC (w.alloc (.cells #[x,y] t)) w.heap.size #[x,y]:=by
 have h:=Blk.new w #[x,y] t;refine⟨h.lt,fun j hj=> ?_⟩;match j,hj with
 |0,_=>exact h.cell 0
 |1,_=>exact h.cell 1
theorem s_Check (s:Ses)(v:Value)(w:World)(hs:SesR w v s)(hm:SmSes s):
 Calls Tryz.prog 34 #[v] w fun e w'=>e= .returned (.int .i64 (sesErr s))∧Below w.heap.size w w':=by
 obtain⟨ov,pv,fv,rfl,ho,hp,hf⟩:=hs;obtain⟨oa,oc,rfl,_⟩:=ho.form;obtain⟨pa,pc,rfl,_⟩:=hp.form;obtain⟨fa,fc,rfl,_⟩:=hf.form;have hB:Below w.heap.size w (w.alloc (.cells #[.slice oa s.obs.length oc,.slice pa s.past.length pc,.slice fa s.fut.length fc] 25)):=by go_grown
 have hC:=hid (s_objects s.obs _ _ (ho.below hB) hm.1);have HLS:Hid (∀ k,k<2→∃la lc,(#[Value.slice pa s.past.length pc,.slice fa s.fut.length fc]:Array Value)[k]? =some (.slice la (lsAt s k).length lc)∧LsoR w (.slice la (lsAt s k).length lc) (lsAt s k)∧SmLs (lsAt s k)):=by
  intro k hk;match k,hk with
  |0,_=>exact⟨pa,pc,rfl,hp,hm.2.1⟩
  |1,_=>exact⟨fa,fc,rfl,hf,hm.2.2⟩
 have HB:=hid hB;generalize hz:sesErr s=z;unfold sesErr at hz;clear ho hp hf hm hB;by_cases h0:obsErr s.obs=0
 case neg=>
  have hb:(obsErr s.obs !=0)=true:=by simpa using h0
  rw[if_pos h0]at hz;have HZ:=hid hz;clear hz h0;go_enter Tryz.func34,Tryz.ntmps34;go_wp2_with (go_at_call 79;refine hC.out.mono ?_;rintro e w1 ⟨rfl,hB1⟩;obtain⟨r1,r2⟩:=bcell hB1);go_ret;exact⟨ret_int HZ.out,up HB.out hB1⟩
 have hb:(obsErr s.obs !=0)=false:=by simpa using h0
 rw[if_neg (by simpa using h0)]at hz;have HZ:Hid (twoE (lsErr s.past) (lsErr s.fut) 0=z):=hz;clear hz h0;go_enter Tryz.func34,Tryz.ntmps34;go_wp2_with (go_at_call 79;refine hC.out.mono ?_;rintro e w1 ⟨rfl,hB1⟩;obtain⟨r1,r2⟩:=bcell hB1;have hs1:=hB1.size;(simp only[World.size_alloc]at hs1);have u1:w.heap.size<w1.heap.size:=(by omega));go_loopw [21] (fun i wr=>∃k:Nat,k≤2∧i= .int .i64 k∧Hid (twoE (lsErr s.past) (lsErr s.fut) k=z)∧Hid (Below w.heap.size w wr)∧Hid (TwoC wr w1.heap.size #[.slice pa s.past.length pc,.slice fa s.fut.length fc])) (fun i _=>2-(intOf i).toNat);case atStart=>exact⟨0,by omega,rfl,HZ,up HB.out (up hB1 (by go_grown)),TwoC.new _ _ _ _⟩
 case round=>
  clear HB HZ r1 r2 u1 hs1 hC;obtain⟨k,hk,rfl,HZ,HB,HT⟩:=hrel;obtain⟨wo,rfl⟩:∃wo:World,wo=wr:=⟨_,rfl⟩;have hk0:(0:Int)≤(k:Int):=by omega
  by_cases hk2:k<2
  ·have hk2':(k:Int)<2:=by omega
   have ht:=twoE_step s hk2;obtain⟨la,lc,hla,hlo,hsl⟩:=HLS.out k hk2;have hc:=(HT.out.2 k hk2).trans hla;have hlt:=HT.out.1;have HLO:=hid hlo;have HSL:=hid hsl;clear hlo hsl hla;have wk:IntKind.i64.wrap ((k:Int)+1)=(k:Int)+1:=IntWalk.i64_in _ (by omega);generalize hls:lsAt s k=ls at*
   clear hls;have hz:Hid ((if lsErr ls≠0 then lsErr ls else twoE (lsErr s.past) (lsErr s.fut) (k+1))=z):=by show _=_;rw[← ht];exact HZ.out
   clear HZ ht;generalize hTT:twoE (lsErr s.past) (lsErr s.fut) (k+1)=T at hz;have HTT:=hid hTT;clear hTT;generalize hle:lsErr ls=z1 at hz;unfold lsErr at hle;by_cases h64:64<ls.length
   ·rw[if_pos h64]at hle
    subst hle;have h64':(64:Int)<(ls.length:Int):=by omega
    go_wp2_with fail;go_ret;exact⟨ret_int (by have:=hz.out;simpa using this),HB.out⟩
   ·rw[if_neg h64]at hle
    have h64':¬(64:Int)<(ls.length:Int):=by omega
    have HZ1:=hid hle;clear hle;go_wp2_with fail;go_loopw [30] (fun i wr=>∃m:Nat,m≤ls.length∧i= .int .i64 m∧Hid (fstE (fun k=>obsErr (ls[k]?.getD [])) m (ls.length-m)=z1)∧Hid (Below wo.heap.size wo wr)) (fun i _=>ls.length-(intOf i).toNat);case atStart=>exact⟨0,Nat.zero_le _,rfl,HZ1,Below.refl _ _⟩
    case round=>
     clear HZ1;obtain⟨m,hm,rfl,HZ1,HBm⟩:=hrel;have hm0:(0:Int)≤(m:Int):=by omega
     by_cases hml:m<ls.length
     ·have hml':(m:Int)<(ls.length:Int):=by omega
      have hst:fstE (fun k=>obsErr (ls[k]?.getD [])) m (ls.length-m)=if obsErr (ls[m]?.getD [])≠0 then obsErr (ls[m]?.getD [])else fstE (fun k=>obsErr (ls[k]?.getD [])) (m+1) (ls.length-(m+1)):=fstE_step hml;have hsm:=hid (HSL.out m hml);have HBB:=hid (up HB.out HBm.out);obtain⟨b,off,xa,xc,rfl,hb,c0,hx⟩:=HLO.out.atB HBB.out m hml;have HX:=hid hx;have HST:=hid hst;have wm:IntKind.i64.wrap ((m:Int)+1)=(m:Int)+1:=IntWalk.i64_in _ (by omega);clear hx hst;generalize ls[m]?.getD []=x at*
      by_cases hoz:obsErr x=0
      case neg=>
       have hob:(obsErr x !=0)=true:=by simpa using hoz
       go_wp2_with (go_at_call 79;refine(s_objects x _ _ (HX.out.below HBB.out) hsm.out).mono ?_;rintro e w2 ⟨rfl,hB2⟩;obtain⟨r3,r4⟩:=bcell hB2);go_ret;refine⟨ret_int ?_,up HBB.out hB2⟩;have h1:=HZ1.out;rw[HST.out,if_pos hoz]at h1;have h2:=hz.out;rw[← h1,if_pos hoz]at h2;exact h2
      case pos=>
       have hob:(obsErr x !=0)=false:=by simpa using hoz
       go_wp2_with (go_at_call 79;refine(s_objects x _ _ (HX.out.below HBB.out) hsm.out).mono ?_;rintro e w2 ⟨rfl,hB2⟩;obtain⟨r3,r4⟩:=bcell hB2);go_roundw;case rel=>exact⟨m+1,by omega,by go_num,hid (by have:=HZ1.out;rw[HST.out,if_neg (by simpa using hoz)]at this;exact this),up HBm.out hB2⟩
       case measure=>simp[intOf];omega
     ·have hml':¬(m:Int)<(ls.length:Int):=by omega
      go_wp2_with fail;go_roundw
      case rel=>
       have hz1:z1=0:=by have:=HZ1.out;rw[show ls.length-m=0 by omega]at this;exact this.symm
       exact⟨k+1,by omega,by go_num,hid (by have:=hz.out;rw[hz1]at this;rw[HTT.out];simpa using this),up HB.out HBm.out,HT.out.below HBm.out⟩
      case measure=>simp[intOf];omega
  ·have hk2':¬(k:Int)<2:=by omega
   obtain rfl:k=2:=by omega
   go_wp2_with fail;go_ret;exact⟨ret_int HZ.out,HB.out⟩
theorem und_edS:Tryz.prog.underlying 26=some (.slice 150):=by kernel_rfl
theorem info_edS:(Tryz.prog.info? 150).map (fun i=>(i.zero,i.size,i.bytes))=some (some (.agg #[.int .i64 0,.int .i64 0,.int .i64 0]),3,24):=by kernel_rfl
theorem CellsAt.newsS {w:World}{a:Addr}{cs:List Value}(h:CellsAt w (some a) cs)(j:Nat)(u:Value)(hj:cs[j]? =some u):w.cell? (a.add j)=some u:=by
 rcases h with h|⟨b',off',e,hl,hc⟩
 ·subst h;simp at hj
 ·injection e with e
  subst e;have e1:(⟨b',off',none⟩:Addr).add j=⟨b',off'+j,none⟩:=by unfold Addr.add;split<;>simp_all
  have hjl:j<cs.length:=by
   rcases Nat.lt_or_ge j cs.length with h|h
   ·exact h
   ·rw[List.getElem?_eq_none h]at hj;cases hj
  rw[e1,hc j hjl];exact hj
theorem owns_edS {w:World}{base:Nat}{e:TypeId}{v:Value}{es:List E}(h:w.ownsRow base e 3 v es.length (es.flatMap E.cells))(hb:es.length*24≤140737488355328):EdgesR w v es:=by
 obtain⟨a,cap,h1,h2,h3,h4⟩:=owns_at h;exact⟨a,cap,h1,h2,h3,hb,h4⟩
theorem owns_inS {w:World}{base:Nat}{e:TypeId}{v:Value}{ds:List Int}(h:w.ownsRow base e 1 v ds.length (ds.map (Value.int .i64)))(hb:ds.length*8≤140737488355328):IntsR w v ds:=by
 obtain⟨a,cap,h1,h2,h3,h4⟩:=owns_at h;exact⟨a,cap,h1,h2,h3,hb,h4⟩
theorem c_CloneE (l:List E)(v:Value)(w:World)(hv:EdgesR w v l):
 Calls Tryz.prog 125 #[v] w fun e w'=>∃v',e= .returned v'∧EdgesR w' v' l∧(∀ k,v'.ownBlock=some k→w.heap.size≤k)∧Below w.heap.size w w':=by
 obtain⟨a,cap,rfl,_,_,hln,hc⟩:=hv;have qT:∀(w:World) (a:Option Addr) (n c n' c':Nat),(binOp .eql 26 (.slice a n c) (.slice none n' c')).run Tryz.prog w= .ok (.bool a.isNone) w:=fun w a n c n' c'=>Lib.run_eql_slice_nil w 26 150 a n c n' c' und_edS;cases a with
 |none=>
  have h0:l=[]:=by
   rcases hc with h|⟨b,off,h,_⟩
   ·have:=congrArg List.length h;rw[flat_length]at this;simp only[List.length_nil]at this;exact List.eq_nil_of_length_eq_zero (by omega)
   ·simp at h
  subst h0
  clear hc
  go_enter Tryz.func125,Tryz.ntmps125
  clear hln
  go_wp2_with fail
  go_ret
  exact⟨_,rfl,EdgesR.nil _,(fun k h=>(by cases h)),Below.refl _ _⟩
 |some a=>
  have HC:=hid hc
  have HL:=hid hln
  clear hc hln
  obtain⟨i,hi,hz,hsz,hby⟩:=info_parts info_edS
  go_enter Tryz.func125,Tryz.ntmps125
  go_wp2_with (at_builtin;refine wpList_append_own _ rfl _ _ 26 rfl w.heap.size 150 i _ 3 24 und_edS hi hz hsz hby rfl (by decide) _ _ _ rfl (World.ownsRow_made w #[] 0 (Nat.le_refl _) (Nat.zero_le _) (by simp)) a l.length cap (l.flatMap E.cells) rfl ?qc1 ?qc2 ?qc3 ?qc4 ?qc5 ?qc6 ?_)
  case qc1=>exact flat_length l
  case qc2=>exact fun j u hj=>(HC.out.below ((Below.refl _ _).alloc (Nat.le_refl _) _)).newsS j u hj
  case qc3=>
   intro u hu;obtain⟨x,_,hx⟩:=List.mem_flatMap.1 hu;simp[E.cells]at hx;rcases hx with rfl|rfl|rfl<;>rfl
  case qc4=>have:=HL.out;unfold maxLen;omega
  case qc5=>have:=HL.out;omega
  case qc6=>simp
  intro v' w1 hown hgrow hnil
  go_wp2_with fail
  go_ret
  refine⟨v',rfl,owns_edS (by simpa using hown) HL.out,fun k h=>(hown.lt k h).1,?_⟩
  exact((Below.refl _ w).alloc (Nat.le_refl _) _).grown hgrow (by simp) (by intro k hk;simp[Value.ownBlock]at hk;omega)
theorem c_CloneD (l:List Int)(v:Value)(w:World)(hv:IntsR w v l):
 Calls Tryz.prog 126 #[v] w fun e w'=>∃v',e= .returned v'∧IntsR w' v' l∧(∀ k,v'.ownBlock=some k→w.heap.size≤k)∧Below w.heap.size w w':=by
 obtain⟨a,cap,rfl,_,_,hln,hc⟩:=hv;have qT:∀(w:World) (a:Option Addr) (n c n' c':Nat),(binOp .eql 65 (.slice a n c) (.slice none n' c')).run Tryz.prog w= .ok (.bool a.isNone) w:=fun w a n c n' c'=>Lib.run_eql_slice_nil w 65 3 a n c n' c' Tryz.underDiv;cases a with
 |none=>
  have h0:l=[]:=by
   rcases hc with h|⟨b,off,h,_⟩
   ·simpa using h
   ·simp at h
  subst h0
  clear hc
  go_enter Tryz.func126,Tryz.ntmps126
  clear hln
  go_wp2_with fail
  go_ret
  exact⟨_,rfl,IntsR.nil _,(fun k h=>(by cases h)),Below.refl _ _⟩
 |some a=>
  have HC:=hid hc
  have HL:=hid hln
  clear hc hln
  obtain⟨i,hi,hz,hsz,hby⟩:=info_parts Tryz.infoInt
  go_enter Tryz.func126,Tryz.ntmps126
  go_wp2_with (at_builtin;refine wpList_append_own _ rfl _ _ 65 rfl w.heap.size 3 i _ 1 8 Tryz.underDiv hi hz hsz hby rfl (by decide) _ _ _ rfl (World.ownsRow_made w #[] 0 (Nat.le_refl _) (Nat.zero_le _) (by simp)) a l.length cap (l.map (Value.int .i64)) rfl ?qc1 ?qc2 ?qc3 ?qc4 ?qc5 ?qc6 ?_)
  case qc1=>simp
  case qc2=>exact fun j u hj=>(HC.out.below ((Below.refl _ _).alloc (Nat.le_refl _) _)).newsS j u hj
  case qc3=>
   intro u hu;obtain⟨x,_,rfl⟩:=List.mem_map.1 hu;rfl
  case qc4=>have:=HL.out;unfold maxLen;omega
  case qc5=>have:=HL.out;omega
  case qc6=>simp
  intro v' w1 hown hgrow hnil
  go_wp2_with fail
  go_ret
  refine⟨v',rfl,owns_inS (by simpa using hown) HL.out,fun k h=>(hown.lt k h).1,?_⟩
  exact((Below.refl _ w).alloc (Nat.le_refl _) _).grown hgrow (by simp) (by intro k hk;simp[Value.ownBlock]at hk;omega)
theorem CellsAt.setS {w:World}{a:Option Addr}{cs:List Value}(h:CellsAt w a cs){p:Addr}(u:Value)(hn:∀n c,(Value.slice a n c).ownBlock≠some p.block):CellsAt (w.setCell p u) a cs:=by
 rcases h with h|⟨b,off,rfl,hb,hc⟩
 ·exact .inl h
 ·refine .inr ⟨b,off,rfl,by simpa using hb,fun j hj=> ?_⟩
  have hne:b≠p.block:=fun e=>hn 0 0 (by rw[← e];rfl);have:=Below.heap_setCell w p u b (fun e=>hne e);rw[← hc j hj];unfold World.cell?;rw[this]
theorem EdgesR.setS {w:World}{v:Value}{es:List E}(h:EdgesR w v es){p:Addr}(u:Value)(hn:∀k,v.ownBlock=some k→p.block<k):EdgesR (w.setCell p u) v es:=by
 obtain⟨a,cap,rfl,h1,h2,h3,h4⟩:=h;exact⟨a,cap,rfl,h1,h2,h3,h4.setS u fun n c e=>(by have:=hn p.block (by cases a<;>exact e);omega)⟩
theorem IntsR.setS {w:World}{v:Value}{es:List Int}(h:IntsR w v es){p:Addr}(u:Value)(hn:∀k,v.ownBlock=some k→p.block<k):IntsR (w.setCell p u) v es:=by
 obtain⟨a,cap,rfl,h1,h2,h3,h4⟩:=h;exact⟨a,cap,rfl,h1,h2,h3,h4.setS u fun n c e=>(by have:=hn p.block (by cases a<;>exact e);omega)⟩
def findErr (s:Ses)(n:List UInt8):Int:=if sesErr s≠0 then sesErr s else if plN s.obs n<s.obs.length then 0 else 6
def findB (s:Ses)(n:List UInt8):Ob:=if findErr s n=0 then obOf s.obs n else ob0
def RetFind (s:Ses)(n:List UInt8)(w:World)(e:Ending)(w':World):Prop:=∃v,e= .returned (.tuple #[v,.int .i64 (findErr s n)])∧ObR w' v (findB s n)∧Below w.heap.size w w'
def RetB (p:Prop)(w:World)(e:Ending)(w':World):Prop:=∃b:Bool,e= .returned (.bool b)∧(b=true↔p)∧Below w.heap.size w w'
theorem q_SameG (g h:G)(av bv:Value)(w:World)(ha:GrR w av g)(hb:GrR w bv h):
 Calls Tryz.prog 72 #[av,bv] w (RetB (g=h) w):=by
 obtain⟨ev,rfl,hE⟩:=ha;obtain⟨ev',rfl,hE'⟩:=hb;have HE:=hid hE;have HE':=hid hE';obtain⟨a,cap,rfl,_⟩:=hE;obtain⟨a',cap',rfl,_⟩:=hE';have hA:=hid ((Blk.new w #[.int .i64 g.n,.slice a g.es.length cap] 28).alloc (.cells #[.int .i64 h.n,.slice a' h.es.length cap'] 28));have hBb:=Blk.new (w.alloc (.cells #[.int .i64 g.n,.slice a g.es.length cap] 28)) #[.int .i64 h.n,.slice a' h.es.length cap'] 28;rw[World.size_alloc]at hBb;have hB:=hid hBb;have HB0:=hid (((Below.refl w.heap.size w).alloc (Nat.le_refl _) (.cells #[.int .i64 g.n,.slice a g.es.length cap] 28)).alloc (by simp) (.cells #[.int .i64 h.n,.slice a' h.es.length cap'] 28))
 clear hBb;have HEX:Hid (g.n=h.n→g.es.length=h.es.length→(∀ j,j<g.es.length→g.es[j]?.getD default=h.es[j]?.getD default)→g=h):=by
  intro e1 e2 e3;obtain⟨gn,ges⟩:=g;obtain⟨hn,hes⟩:=h;dsimp only at e1 e2 e3;subst e1;have:ges=hes:=by
   apply List.ext_getElem e2;intro j h1 h2;have:=e3 j h1;simpa[h1,h2]using this
  rw[this]
 by_cases h1:g.n=h.n
 case neg=>
  have q1:(g.n !=h.n)=true:=by simpa using h1
  have HN:Hid (g≠h):=fun e=>h1 (by rw[e]);clear h1;go_enter Tryz.func72,Tryz.ntmps72;go_wp2_with fail;all_goals(go_ret;exact⟨false,rfl,⟨fun h=>(by cases h),fun h=>absurd h HN.out⟩,HB0.out⟩)
 have q1:(g.n !=h.n)=false:=by simpa using h1
 by_cases h2:g.es.length=h.es.length
 case neg=>
  have q2:((g.es.length:Int)!=(h.es.length:Int))=true:=by simp;omega
  have HN:Hid (g≠h):=fun e=>h2 (by rw[e]);clear h1 h2;go_enter Tryz.func72,Tryz.ntmps72;go_wp2_with fail;all_goals(go_ret;exact⟨false,rfl,⟨fun h=>(by cases h),fun h=>absurd h HN.out⟩,HB0.out⟩)
 have q2:((g.es.length:Int)!=(h.es.length:Int))=false:=by simp;omega
 have HX:=hid (HEX.out h1 h2);have HLN:=hid h2;clear HEX h1 h2;go_enter Tryz.func72,Tryz.ntmps72;go_upto_region 1 with fail;generalize (w.alloc (.cells #[.int .i64 g.n,.slice a g.es.length cap] 28)).alloc (.cells #[.int .i64 h.n,.slice a' h.es.length cap'] 28)=W0 at*
 have a0:W0.cell? ⟨w.heap.size,0,none⟩=some (.int .i64 g.n):=(hA.out.cell 0).trans rfl;have a1:W0.cell? ⟨w.heap.size,1,none⟩=some (.slice a g.es.length cap):=(hA.out.cell 1).trans rfl;have b0:W0.cell? ⟨w.heap.size+1,0,none⟩=some (.int .i64 h.n):=(hB.out.cell 0).trans rfl;have b1:W0.cell? ⟨w.heap.size+1,1,none⟩=some (.slice a' h.es.length cap'):=(hB.out.cell 1).trans rfl;have al:=hA.out.lt;have bl:=hB.out.lt;have HE0:=hid (HE.out.below HB0.out);have HE0':=hid (HE'.out.below HB0.out);go_wp2_with fail;go_loopw [5] (fun i wr=>∃k:Nat,k≤g.es.length∧i= .int .i64 k∧Hid (∀ j,j<k→g.es[j]?.getD default=h.es[j]?.getD default)∧Hid (Below W0.heap.size W0 wr)) (fun i _=>g.es.length-(intOf i).toNat)
 case atStart=>exact⟨0,Nat.zero_le _,rfl,fun j hj=>by omega,Below.refl _ _⟩
 case round=>
  obtain⟨k,hkn,rfl,HP,HBr⟩:=hrel;obtain⟨wo,rfl⟩:∃wo:World,wo=wr:=⟨_,rfl⟩;have a1:wo.cell? ⟨w.heap.size,1,none⟩=some (.slice a g.es.length cap):=((hA.out.below HBr.out).cell 1).trans rfl;have b1:wo.cell? ⟨w.heap.size+1,1,none⟩=some (.slice a' h.es.length cap'):=((hB.out.below HBr.out).cell 1).trans rfl;have al:=(hA.out.below HBr.out).lt;have bl:=(hB.out.below HBr.out).lt;have HBW:Hid (Below w.heap.size w wo):=HB0.out.trans (HBr.out.mono HB0.out.size);by_cases hlt:k<g.es.length
  ·have hlt':(k:Int)<(g.es.length:Int):=by omega
   have hlt2:(k:Int)<(h.es.length:Int):=by have:=HLN.out;omega
   have hk2:k<h.es.length:=by omega
   have hk0:(0:Int)≤(k:Int):=by omega
   have wk:IntKind.i64.wrap ((k:Int)+1)=(k:Int)+1:=IntWalk.i64_in _ (by have:=HE.out;obtain⟨_,_,e,_,_,h3,_⟩:=this;omega);obtain⟨x1,x2,ea,_,_,_,hc⟩:=HE0.out.below HBr.out;injection ea with ea1 _ ea3
   subst ea1 ea3;obtain⟨b,off,rfl,hb,hc⟩:=hc.edge (by omega);obtain⟨c0,c1,c2⟩:=hc k hlt;obtain⟨y1,y2,eb,_,_,_,hd⟩:=HE0'.out.below HBr.out;injection eb with eb1 _ eb3
   subst eb1 eb3;obtain⟨b',off',rfl,hb',hd⟩:=hd.edge (by omega);obtain⟨d0,d1,d2⟩:=hd k hk2;clear hc hd hk2;have HNE:Hid (g.es[k]?.getD default≠h.es[k]?.getD default→g≠h):=fun n e=>n (by rw[e]);have HEQ:Hid (g.es[k]?.getD default=h.es[k]?.getD default→∀j,j<k+1→g.es[j]?.getD default=h.es[j]?.getD default):=fun h j hj=>by
    by_cases e:j=k
    ·subst e;exact h
    ·exact HP.out j (by omega)
   generalize g.es[k]?.getD default=x at*
   generalize h.es[k]?.getD default=y at*
   obtain⟨xa,xb,xm⟩:=x;obtain⟨ya,yb,ym⟩:=y;dsimp only at c0 c1 c2 d0 d1 d2;cases p1:(xa==ya)<;>cases p2:(xb==yb)<;>cases p3:(xm==ym)
   all_goals
    go_wp2_with fail
    go_quiet (fail)
    go_wp2_with fail
    first
     |(go_ret;exact⟨false,rfl,⟨fun h=>(by cases h),fun h=>absurd h (HNE.out (by intro e;injection e with e1 e2 e3;subst e1 e2 e3;simp at p1 p2 p3))⟩,below_dN HBW.out _⟩)
     |exact⟨⟨k+1,by omega,by go_num,hid (HEQ.out (by rw[eq_of_beq p1,eq_of_beq p2,eq_of_beq p3])),below_dN HBr.out _⟩,by simp[intOf];omega⟩
  ·obtain rfl:k=g.es.length:=by omega
   have hlt':¬(g.es.length:Int)<(g.es.length:Int):=by omega
   go_wp2_with fail;go_ret;exact⟨true,rfl,⟨fun _=>HX.out fun j hj=>HP.out j hj,fun _=>rfl⟩,HBW.out⟩
end Go.Proofs.YtclgllmipcbagaaGreatDoor
