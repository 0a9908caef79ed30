/-
  Parts of the proof: XK0 XK9 XKL
-/
import Derived.Test.YtclgllmipcbagaaGreatDoorBk00
import Derived.Test.YtclgllmipcbagaaGreatDoorProg
import Derived.Shelf.Small.Strs
import Derived.Shelf.Strings.SlTrimAscii
import Derived.Shelf.Strings.Search3
namespace Go.Proofs.YtclgllmipcbagaaGreatDoor
set_option linter.unusedVariables false
set_option linter.unusedSimpArgs false
set_option maxRecDepth 100000
set_option maxHeartbeats 16000000
open Go.RowKit
def str (l:List UInt8):ByteArray:=⟨l.toArray⟩
theorem str_data (l:List UInt8):(str l).data.toList=l:=rfl
theorem str_size (l:List UInt8):(str l).size=l.length:=by simp[str,ByteArray.size]
structure Tok where
 kind:Int
 text:List UInt8
 pos:Int
deriving Inhabited, DecidableEq
def Tok.cells (x:Tok):List Value:=[.int .i64 x.kind,.string (str x.text),.int .i64 x.pos]
def isLet (c:UInt8):Bool:=decide (97≤c.toNat)&&decide (c.toNat≤122)
def isDig (c:UInt8):Bool:=decide (48≤c.toNat)&&decide (c.toNat≤57)
def letters:List UInt8:=[97,98,99,100,101,102,103,104,105,106,107,108,109,110,111,112,113,114,115,116,117,118,119,120,121,122]
def figures:List UInt8:=[48,49,50,51,52,53,54,55,56,57]
def marks:List UInt8:=[44,59,58,40,41,123,125,91,93,61,43,45,42,47,60,62,46]
def isSgn (c:UInt8):Bool:=marks.contains c
theorem byte_all (f:UInt8→Bool)(h:(List.range 256).all (fun n=>f (UInt8.ofNat n))=true)(c:UInt8):f c=true:=by
 have:=List.all_eq_true.1 h c.toNat (by simp[c.toNat_lt]);simpa using this
theorem let_has (c:UInt8):letters.contains c=isLet c:=by
 have:=byte_all (fun c=>letters.contains c==isLet c) (by kernel_rfl) c;exact eq_of_beq this
theorem dig_has (c:UInt8):figures.contains c=isDig c:=by
 have:=byte_all (fun c=>figures.contains c==isDig c) (by kernel_rfl) c;exact eq_of_beq this
theorem let_dig (c:UInt8):isLet c=true→isDig c=false:=by
 unfold isLet isDig;simp only[Bool.and_eq_true,decide_eq_true_eq,Bool.and_eq_false_iff,decide_eq_false_iff_not];omega
theorem sgn_not (c:UInt8)(h:isSgn c=true):isLet c=false∧isDig c=false∧c≠32:=by
 have:=byte_all (fun c=> !isSgn c||(!isLet c&& !isDig c&&c !=32)) (by kernel_rfl) c;simpa[h,and_assoc]using this
theorem blank_not:isLet 32=false∧isDig 32=false∧isSgn 32=false:=by decide
def wordErr (l:List UInt8):Int:=if (l.isEmpty|| !l.all isLet)=true then 3 else if 24<l.length then 19 else 0
def natB (l:List UInt8):Bool:= !l.isEmpty&&l.all isDig&&(decide (l.head? ≠some 48)||decide (l.length=1))
def numErr (l:List UInt8):Int:=if (l.isEmpty|| !l.all isDig)=true then 3 else if 1024<l.length then 11 else if natB l=true then 0 else 3
def sgnErr (l:List UInt8):Int:=match l with|[c]=>if isSgn c then 0 else 3|_=>3
def kindOf (c:UInt8):Int:=if isLet c then 0 else if isDig c then 1 else if isSgn c then 2 else 4
def runOf (s:List UInt8):List UInt8:=match s with
 |[]=>[]
 |c::r=>if isLet c then(c::r).takeWhile isLet else if isDig c then(c::r).takeWhile isDig else[c]
def tokErr (k:Int)(t:List UInt8):Int:=if k=0 then wordErr t else if k=1 then numErr t else if k=2 then sgnErr t else 4
def scanG:Nat→List UInt8→Nat→(Int×Int)⊕List Tok
 |0,_,p=> .inr [⟨3,[],p⟩]
 |_+1,[],p=> .inr [⟨3,[],p⟩]
 |n+1,c::r,p=>
  if c=32 then scanG n r (p+1)
  else if tokErr (kindOf c) (runOf (c::r))≠0 then .inl (p,tokErr (kindOf c) (runOf (c::r)))
  else match scanG n ((c::r).drop (runOf (c::r)).length) (p+(runOf (c::r)).length)with
   | .inl x=> .inl x
   | .inr l=> .inr (⟨kindOf c,runOf (c::r),p⟩::l)
def scanR (s:List UInt8):(Int×Int)⊕List Tok:=if 4096<s.length then .inl (0,19)else scanG (s.length+1) s 0
abbrev Scn:=(Int×Int)⊕List Tok
def Scn.at' (z:Scn):Int:=match z with| .inl x=>x.1| .inr _=>0
def Scn.no (z:Scn):Int:=match z with| .inl x=>x.2| .inr _=>0
def Scn.toks (z:Scn):List Tok:=match z with| .inl _=>[]| .inr l=>l
def Scn.pre (l:List Tok)(z:Scn):Scn:=match z with| .inl x=> .inl x| .inr m=> .inr (l++m)
theorem pre_nil (z:Scn):Scn.pre [] z=z:=by cases z<;>rfl
theorem runOf_len (c:UInt8)(r:List UInt8):1≤(runOf (c::r)).length∧(runOf (c::r)).length≤(c::r).length:=by
 have tw:∀(p:UInt8→Bool) (l:List UInt8),(l.takeWhile p).length≤l.length:=fun p l=>by
  induction l with
  |nil=>simp
  |cons a l ih=>by_cases h:p a=true<;>simp[h];exact ih
 unfold runOf;by_cases h1:isLet c=true
 ·simp only[h1,if_true]
  exact⟨by simp[h1],tw _ _⟩
 ·by_cases h2:isDig c=true
  ·simp only[h1,h2,if_true,Bool.false_eq_true,if_false]
   exact⟨by simp[h2],tw _ _⟩
  ·simp[h1,h2]
theorem scan_fuel:∀(n m:Nat) (s:List UInt8) (p:Nat),s.length<n→s.length<m→scanG n s p=scanG m s p
 |0,_,_,_,h,_=>by omega
 |_,0,_,_,_,h=>by omega
 |n+1,m+1,[],p,_,_=>rfl
 |n+1,m+1,c::r,p,h1,h2=>by
  have hr:=runOf_len c r;have hl:((c::r).drop (runOf (c::r)).length).length<n∧((c::r).drop (runOf (c::r)).length).length<m:=by
   rw[List.length_drop];simp only[List.length_cons]at *;omega
  unfold scanG;rw[scan_fuel n m r (p+1) (by simp at h1;omega) (by simp at h2;omega),scan_fuel n m _ _ hl.1 hl.2]
def fuelS (s:List UInt8)(p:Nat):Scn:=scanG (s.length+1) s p
theorem fuelS_end (p:Nat):fuelS [] p= .inr [⟨3,[],p⟩]:=rfl
theorem fuelS_blank (r:List UInt8)(p:Nat):fuelS (32::r) p=fuelS r (p+1):=rfl
theorem fuelS_err (c:UInt8)(r:List UInt8)(p:Nat)(h:c≠32)(he:tokErr (kindOf c) (runOf (c::r))≠0):fuelS (c::r) p= .inl (p,tokErr (kindOf c) (runOf (c::r))):=by
 unfold fuelS scanG;rw[if_neg h,if_pos he]
theorem fuelS_tok (c:UInt8)(r:List UInt8)(p:Nat)(h:c≠32)(he:tokErr (kindOf c) (runOf (c::r))=0):
 fuelS (c::r) p=Scn.pre [⟨kindOf c,runOf (c::r),p⟩] (fuelS ((c::r).drop (runOf (c::r)).length) (p+(runOf (c::r)).length)):=by
 have hr:=runOf_len c r
 have hx:scanG (c::r).length ((c::r).drop (runOf (c::r)).length) (p+(runOf (c::r)).length)=fuelS ((c::r).drop (runOf (c::r)).length) (p+(runOf (c::r)).length):=
  scan_fuel _ _ _ _ (by rw[List.length_drop];simp only[List.length_cons]at *;omega) (by omega)
 unfold fuelS at hx;conv=>lhs;unfold fuelS scanG
 rw[if_neg h,if_neg (by simpa using he),hx];show(match fuelS _ _ with| .inl x=>Sum.inl x| .inr l=> .inr (_::l))=_;cases fuelS ((c::r).drop (runOf (c::r)).length) (p+(runOf (c::r)).length)<;>rfl
def formErr (t:Tok)(last:Bool):Int:=
 if t.kind=3 then(if !last then 9 else if t.text=[]then 0 else 3)
 else if t.kind=0∨t.kind=1∨t.kind=2 then(if tokErr t.kind t.text=0 then 0 else 3)else 1
def formAt (l:List Tok)(i:Nat):Int:=formErr (l[i]?.getD default) (decide (i+1=l.length))
def plainT (t:Tok):Bool:=decide (t.kind=0)||decide (t.kind=1)
def joined:Bool→List Tok→List UInt8
 |_,[]=>[]
 |b,t::l=>(if b&&plainT t then[32]else[])++t.text++joined (plainT t) l
def joinR (l:List Tok):Int×List UInt8:=
 if 4097<l.length then(5,[])else if firstNZ (formAt l) 0 l.length≠0 then(firstNZ (formAt l) 0 l.length,[])
 else if (l.getLast?.map Tok.kind)≠some 3 then(9,[])else if 4096<(joined false l).length then(19,[])else(0,joined false l)
def opens (t:Tok):Nat:=if t.kind=2 then(if t.text=[40]then 1 else if t.text=[91]then 2 else if t.text=[123]then 3 else 0)else 0
def closes (t:Tok):Nat:=if t.kind=2 then(if t.text=[41]then 1 else if t.text=[93]then 2 else if t.text=[125]then 3 else 0)else 0
def tokCells (l:List Tok):List Value:=l.flatMap Tok.cells
theorem tokCells_length (l:List Tok):(tokCells l).length=l.length*3:=by
 induction l with
 |nil=>rfl
 |cons a l ih=>simp only[tokCells,List.flatMap_cons,List.length_append,List.length_cons]at *;rw[ih];simp[Tok.cells];omega
theorem tokCells_snoc (l:List Tok)(t:Tok):tokCells (l++[t])=tokCells l++t.cells:=by simp[tokCells]
theorem tokCells_get (l:List Tok):∀k,k<l.length→∀j,j<3→(tokCells l)[k*3+j]? =(l[k]?.getD default).cells[j]? :=by
 induction l with
 |nil=>intro k hk;simp at hk
 |cons a l ih=>
  intro k hk j hj
  have e:tokCells (a::l)=a.cells++tokCells l:=by simp[tokCells]
  rw[e]
  cases k with
  |zero=>rw[List.getElem?_append_left (by simp[Tok.cells];omega)];simp
  |succ k=>
   rw[List.getElem?_append_right (by simp[Tok.cells];omega)]
   have:=ih k (by simpa using hk) j hj
   have e2:(k+1)*3+j-a.cells.length=k*3+j:=by simp[Tok.cells];omega
   rw[e2,this]
   simp
def ToksR (w:World)(v:Value)(l:List Tok):Prop:=
 ∃a cap,v= .slice a l.length cap∧l.length≤cap∧cap≤9223372036854775807∧l.length*32≤140737488355328∧CellsAt w a (tokCells l)
theorem ToksR.below {w w':World}{v:Value}{l:List Tok}(h:ToksR w v l)(hb:Below w.heap.size w w'):ToksR w' v l:=by
 obtain⟨a,cap,h1,h2,h3,h4,h5⟩:=h;exact⟨a,cap,h1,h2,h3,h4,h5.below hb⟩
theorem CellsAt.tok {w:World}{a:Option Addr}{l:List Tok}(h:CellsAt w a (tokCells l))(hk:0<l.length):
 ∃b off,a=some ⟨b,off,none⟩∧b<w.heap.size∧∀k,k<l.length→w.cell? ⟨b,off+k*3,none⟩=some (.int .i64 (l[k]?.getD default).kind)∧
  w.cell? ⟨b,off+k*3+1,none⟩=some (.string (str (l[k]?.getD default).text))∧w.cell? ⟨b,off+k*3+2,none⟩=some (.int .i64 (l[k]?.getD default).pos):=by
 rcases h with h|⟨b,off,rfl,hl,hc⟩
 ·have:=tokCells_length l;rw[h]at this;simp at this;omega
 ·refine⟨b,off,rfl,hl,fun k hk=> ?_⟩
  have hl3:=tokCells_length l;refine⟨?_,?_,?_⟩
  ·rw[hc (k*3) (by omega)];exact tokCells_get l k hk 0 (by omega)
  ·rw[Nat.add_assoc,hc (k*3+1) (by omega)];exact tokCells_get l k hk 1 (by omega)
  ·rw[Nat.add_assoc,hc (k*3+2) (by omega)];exact tokCells_get l k hk 2 (by omega)
theorem owns_toks {w:World}{base:Nat}{e:TypeId}{v:Value}{l:List Tok}(h:w.ownsRow base e 3 v l.length (tokCells l))(hb:l.length*32≤140737488355328):ToksR w v l:=by
 obtain⟨a,cap,h1,h2,h3,h4⟩:=owns_at h;exact⟨a,cap,h1,h2,h3,hb,h4⟩
end Go.Proofs.YtclgllmipcbagaaGreatDoor
namespace Go.Proofs.YtclgllmipcbagaaGreatDoor
set_option linter.unusedVariables false
set_option linter.unusedSimpArgs false
set_option maxRecDepth 100000
set_option maxHeartbeats 16000000
def okT (t:Tok):Prop:=(t.kind=0∨t.kind=1∨t.kind=2)∧tokErr t.kind t.text=0
def Tok.bare (t:Tok):Tok:={t with pos:=0}
def edge (s:List UInt8):Prop:=∀c r,s=c::r→isLet c=false∧isDig c=false
theorem tw_app (p:UInt8→Bool)(t r:List UInt8)(h:t.all p=true)(hr:∀c s,r=c::s→p c=false):(t++r).takeWhile p=t:=by
 induction t with
 |nil=>cases r with
  |nil=>rfl
  |cons c s=>simp[hr c s rfl]
 |cons a t ih=>simp at h;simp[h.1];exact ih (by simpa using h.2)
theorem wordErr_ok {t:List UInt8}(h:wordErr t=0):t≠[]∧t.all isLet=true∧t.length≤24:=by
 unfold wordErr at h;split at h
 ·omega
 ·split at h
  ·omega
  ·rename_i h1 h2
   simp only[Bool.or_eq_true,not_or,Bool.not_eq_true,Bool.not_eq_false',List.isEmpty_eq_false_iff]at h1;exact⟨h1.1,h1.2,by omega⟩
theorem numErr_ok {t:List UInt8}(h:numErr t=0):t≠[]∧t.all isDig=true∧t.length≤1024:=by
 unfold numErr at h;split at h
 ·omega
 ·split at h
  ·omega
  ·rename_i h1 h2
   simp only[Bool.or_eq_true,not_or,Bool.not_eq_true,Bool.not_eq_false',List.isEmpty_eq_false_iff]at h1;exact⟨h1.1,h1.2,by omega⟩
theorem sgnErr_ok {t:List UInt8}(h:sgnErr t=0):∃c,t=[c]∧isSgn c=true:=by
 unfold sgnErr at h;split at h
 ·rename_i c
  exact⟨c,rfl,by simpa using h⟩
 ·omega
theorem okT_start {t:Tok}(h:okT t):∃c r,t.text=c::r∧c≠32∧kindOf c=t.kind∧(plainT t=false→isLet c=false∧isDig c=false)∧
 ∀rest,(plainT t=true→edge rest)→runOf (t.text++rest)=t.text:=by
 obtain⟨hk,he⟩:=h;rcases hk with hk|hk|hk<;>rw[hk]at he
 ·obtain⟨h1,h2,_⟩:=wordErr_ok (t:=t.text) (by simpa[tokErr]using he)
  match ht:t.text,h1 with
  |c::r,_=>
   rw[ht]at h2
   have hc:isLet c=true:=by simp at h2;exact h2.1
   refine⟨c,r,rfl,?_,by simp[kindOf,hc,hk],by simp[plainT,hk],fun rest hr=> ?_⟩
   ·rintro rfl;simp[blank_not.1]at hc
   ·show runOf (c::(r++rest))=c::r
    unfold runOf;simp only[hc,if_true];exact tw_app isLet (c::r) rest h2 fun d s e=>(hr (by simp[plainT,hk]) d s e).1
 ·obtain⟨h1,h2,_⟩:=numErr_ok (t:=t.text) (by simpa[tokErr]using he)
  match ht:t.text,h1 with
  |c::r,_=>
   rw[ht]at h2
   have hc:isDig c=true:=by simp at h2;exact h2.1
   have hl:isLet c=false:=by
    cases hx:isLet c with
    |false=>rfl
    |true=>rw[let_dig c hx]at hc;exact absurd hc (by simp)
   refine⟨c,r,rfl,?_,by simp[kindOf,hc,hk,hl],by simp[plainT,hk],fun rest hr=> ?_⟩
   ·rintro rfl;simp[blank_not.2.1]at hc
   ·show runOf (c::(r++rest))=c::r
    unfold runOf;simp only[hc,hl,if_true,Bool.false_eq_true,if_false];exact tw_app isDig (c::r) rest h2 fun d s e=>(hr (by simp[plainT,hk]) d s e).2
 ·obtain⟨c,ht,hc⟩:=sgnErr_ok (t:=t.text) (by simpa[tokErr]using he)
  obtain⟨h1,h2,h3⟩:=sgn_not c hc;exact⟨c,[],ht,h3,by simp[kindOf,h1,h2,hc,hk],fun _=>⟨h1,h2⟩,fun rest _=>by rw[ht];simp[runOf,h1,h2]⟩
def glue:List (Nat×Tok)→Nat→List UInt8
 |[],m=>List.replicate m 32
 |(n,t)::l,m=>List.replicate n 32++(t.text++glue l m)
def sepd:Bool→List (Nat×Tok)→Prop
 |_,[]=>True
 |b,(n,t)::l=>(b=true→plainT t=true→0<n)∧sepd (plainT t) l
theorem edge_blank (n:Nat)(s:List UInt8)(h:n=0→edge s):edge (List.replicate n 32++s):=by
 cases n with
 |zero=>simpa using h rfl
 |succ n=>intro c r e;simp[List.replicate_succ]at e;rw[← e.1];exact⟨blank_not.1,blank_not.2.1⟩
theorem glue_edge (l:List (Nat×Tok))(m:Nat)(h:∀x∈l,okT x.2)(hs:sepd true l):edge (glue l m):=by
 cases l with
 |nil=>intro c r e;cases m with
  |zero=>simp[glue]at e
  |succ m=>simp[glue,List.replicate_succ]at e;rw[← e.1];exact⟨blank_not.1,blank_not.2.1⟩
 |cons x l=>
  obtain⟨n,t⟩:=x
  refine edge_blank n _ fun hn=> ?_
  obtain⟨c,r,h1,h2,h3,h4,h5⟩:=okT_start (h (n,t) (by simp))
  have hp:plainT t=false:=by
   cases hp:plainT t with
   |false=>rfl
   |true=>have:=hs.1 rfl hp;omega
  simp only at h1
  rw[h1]
  intro d s e
  simp at e
  rw[← e.1];exact h4 hp
theorem fuelS_blanks (n:Nat)(s:List UInt8):∀p,fuelS (List.replicate n 32++s) p=fuelS s (p+n):=by
 induction n with
 |zero=>intro p;simp
 |succ n ih=>
  intro p
  rw[List.replicate_succ,List.cons_append,fuelS_blank,ih]
  congr 1;omega
theorem scan_glue (m:Nat):∀(l:List (Nat×Tok)) (b:Bool) (p:Nat),(∀ x∈l,okT x.2)→sepd b l→
 ∃l',fuelS (glue l m) p= .inr l'∧l'.map Tok.bare=l.map (fun x=>x.2.bare)++[⟨3,[],0⟩]
 |[],b,p,_,_=>⟨[⟨3,[],(p+m:Nat)⟩],by
    have:=fuelS_blanks m [] p;rw[List.append_nil]at this;simp only[glue];rw[this,fuelS_end],rfl⟩
 |(n,t)::l,b,p,h,hs=>by
  obtain⟨l',h1,h2⟩:=scan_glue m l (plainT t) (p+n+t.text.length) (fun x hx=>h x (by simp[hx])) hs.2;obtain⟨c,r,k1,k2,k3,k4,k5⟩:=okT_start (h (n,t) (by simp));simp only at k1 k2 k3 k4 k5;have hrun:runOf (t.text++glue l m)=t.text:=k5 _ fun hp=>glue_edge l m (fun x hx=>h x (by simp[hx])) (by have:=hs.2;rw[hp]at this;exact this);refine⟨⟨t.kind,t.text,(p+n:Nat)⟩::l',?_,by simp[Tok.bare,h2]⟩;simp only[glue];rw[fuelS_blanks];have hrun':runOf (c::(r++glue l m))=t.text:=by rw[← List.cons_append,←k1];exact hrun
  have:=fuelS_tok c (r++glue l m) (p+n) k2 (by rw[hrun',k3];exact(h (n,t) (by simp)).2);rw[hrun',k3]at this;have e:t.text++glue l m=c::(r++glue l m):=by rw[← List.cons_append,←k1]
  rw[e,this,←e,List.drop_left,h1];rfl
theorem scan_ok:∀(n:Nat) (s:List UInt8) (p:Nat) (l:List Tok),s.length<n→fuelS s p= .inr l→∃l0 q,l=l0++[⟨3,[],q⟩]∧∀t∈l0,okT t
 |0,s,_,_,h,_=>by omega
 |n+1,[],p,l,_,h=>by rw[fuelS_end]at h;injection h with h;exact⟨[],p,by rw[← h];rfl,by simp⟩
 |n+1,c::r,p,l,hn,h=>by
  simp only[List.length_cons]at hn;by_cases hc:c=32
  ·subst hc;rw[fuelS_blank]at h
   exact scan_ok n r (p+1) l (by omega) h
  ·by_cases he:tokErr (kindOf c) (runOf (c::r))=0
   ·rw[fuelS_tok c r p hc he]at h
    have hr:=runOf_len c r;cases hz:fuelS ((c::r).drop (runOf (c::r)).length) (p+(runOf (c::r)).length)with
    |inl x=>rw[hz]at h;simp[Scn.pre]at h
    |inr l1=>
     rw[hz]at h
     simp only[Scn.pre]at h
     injection h with h
     obtain⟨l0,q,h1,h2⟩:=scan_ok n _ _ l1 (by rw[List.length_drop];simp only[List.length_cons]at *;omega) hz
     refine⟨⟨kindOf c,runOf (c::r),p⟩::l0,q,by rw[← h,h1];rfl,fun t ht=> ?_⟩
     rcases List.mem_cons.1 ht with rfl|ht
     ·refine⟨?_,he⟩
      show kindOf c=0∨kindOf c=1∨kindOf c=2;by_cases h4:kindOf c=0∨kindOf c=1∨kindOf c=2
      ·exact h4
      ·exfalso
       have:kindOf c=4:=by
        unfold kindOf at h4⊢;cases hl:isLet c<;>cases hd:isDig c<;>cases hg:isSgn c<;>simp[hl,hd,hg]at h4⊢
       rw[this]at he;simp[tokErr]at he
     ·exact h2 t ht
   ·rw[fuelS_err c r p hc he]at h;exact absurd h (by simp)
def marked:Bool→List Tok→List (Nat×Tok)
 |_,[]=>[]
 |b,t::l=>(if b&&plainT t then 1 else 0,t)::marked (plainT t) l
theorem marked_snd (b:Bool)(l:List Tok):(marked b l).map Prod.snd=l:=by
 induction l generalizing b with
 |nil=>rfl
 |cons t l ih=>simp[marked,ih]
theorem marked_sepd (b:Bool)(l:List Tok):sepd b (marked b l):=by
 induction l generalizing b with
 |nil=>trivial
 |cons t l ih=>exact⟨fun h1 h2=>by simp[h1,h2],ih _⟩
theorem joined_glue (q:Int)(b:Bool)(l:List Tok):joined b (l++[(⟨3,[],q⟩:Tok)])=glue (marked b l) 0:=by
 induction l generalizing b with
 |nil=>simp[joined,marked,glue,plainT]
 |cons t l ih=>
  simp only[List.cons_append,joined,marked,glue,ih]
  by_cases h:(b&&plainT t)=true
  ·simp[h]
  ·simp[h]
theorem scan_join (l:List Tok)(q:Int)(h:∀t∈l,okT t):∃l',fuelS (joined false (l++[(⟨3,[],q⟩:Tok)])) 0= .inr l'∧l'.map Tok.bare=(l++[(⟨3,[],q⟩:Tok)]).map Tok.bare:=by
 rw[joined_glue];obtain⟨l',h1,h2⟩:=scan_glue 0 (marked false l) false 0 (fun x hx=>h _ (by rw[← marked_snd false l];exact List.mem_map_of_mem hx)) (marked_sepd false l);refine⟨l',h1,?_⟩;rw[h2];have:=marked_snd false l;conv=>rhs;rw[← this]
 simp[Tok.bare]
theorem nz_zero (f:Nat→Int)(n:Nat)(h:∀i,i<n→f i=0):firstNZ f 0 n=0:=by
 have g:∀k i,i+k=n→firstNZ f i k=0:=by
  intro k;induction k with
  |zero=>intro i _;rfl
  |succ k ih=>intro i hi;unfold firstNZ;rw[h i (by omega)];simpa using ih (i+1) (by omega)
 exact g n 0 (by omega)
theorem form_ok (l:List Tok)(q:Int)(h:∀t∈l,okT t):firstNZ (formAt (l++[(⟨3,[],q⟩:Tok)])) 0 (l++[(⟨3,[],q⟩:Tok)]).length=0:=by
 refine nz_zero _ _ fun i hi=> ?_;simp only[List.length_append,List.length_cons,List.length_nil]at hi;unfold formAt;by_cases hl:i<l.length
 ·rw[List.getElem?_append_left hl]
  obtain⟨hk,he⟩:=h l[i] (List.getElem_mem hl);simp only[hl,List.getElem?_eq_getElem,Option.getD_some];unfold formErr;have:l[i].kind≠3:=by rcases hk with hk|hk|hk<;>omega
  rw[if_neg this,if_pos hk,if_pos he]
 ·have:i=l.length:=by omega
  subst this;simp[formErr]
inductive Dyck:List Tok→Prop
 |nil:Dyck []
 |skip (t:Tok) (l:List Tok):opens t=0→closes t=0→Dyck l→Dyck (t::l)
 |wrap (t c:Tok) (d l:List Tok):opens t≠0→opens c=0→closes c=opens t→Dyck d→Dyck l→Dyck (t::(d++c::l))
theorem Dyck.app {a b:List Tok}(ha:Dyck a)(hb:Dyck b):Dyck (a++b):=by
 induction ha with
 |nil=>exact hb
 |skip t l h1 h2 _ ih=>exact .skip t _ h1 h2 ih
 |wrap t c d l h1 h2 h3 hd _ _ ih=>rw[List.cons_append,List.append_assoc];exact .wrap t c d _ h1 h2 h3 hd ih
end Go.Proofs.YtclgllmipcbagaaGreatDoor
namespace Go.Proofs.YtclgllmipcbagaaGreatDoor
open Go.RowKit
set_option linter.unusedVariables false
set_option linter.unusedSimpArgs false
set_option maxRecDepth 100000
set_option maxHeartbeats 16000000
def ren:Go.Shelf.Ren:=⟨fun|119=>378|120=>344|137=>377|143=>227|144=>400|151=>286|152=>343|160=>160|161=>396|197=>285|217=>315|219=>252|224=>317|225=>316|227=>214|228=>284|231=>212|232=>213|233=>215|234=>216|235=>217|236=>218|260=>342|266=>359|267=>318|271=>287|314=>360|n=>n,fun|0=>0|3=>3|4=>4|5=>5|9=>9|21=>21|46=>320|51=>378|105=>351|116=>284|117=>285|119=>426|124=>288|138=>428|139=>429|146=>411|n=>n,fun|1=>1|3=>4|4=>5|n=>n⟩
theorem lay160:Go.Proofs.Lays.n160 Tryz.prog ren:=
 {mixed:=by kernel_rfl,
  f119:=by kernel_rfl,
  f120:=by kernel_rfl,
  f137:=by kernel_rfl,
  f151:=by kernel_rfl,
  f152:=by kernel_rfl,
  f160:=by kernel_rfl,
  f197:=by kernel_rfl,
  f217:=by kernel_rfl,
  f224:=by kernel_rfl,
  f225:=by kernel_rfl,
  f227:=by kernel_rfl,
  f228:=by kernel_rfl,
  f231:=by kernel_rfl,
  f232:=by kernel_rfl,
  f233:=by kernel_rfl,
  f234:=by kernel_rfl,
  f235:=by kernel_rfl,
  f236:=by kernel_rfl,
  f260:=by kernel_rfl,
  f266:=by kernel_rfl,
  f271:=by kernel_rfl,
  t0:=by kernel_rfl,
  a0:=fun _=>by kernel_rfl,
  z0:=fun _=>by kernel_rfl,
  v0:=fun _=>by kernel_rfl,
  t3:=by kernel_rfl,
  a3:=fun _=>by kernel_rfl,
  z3:=fun _=>by kernel_rfl,
  v3:=fun _=>by kernel_rfl,
  t4:=by kernel_rfl,
  a4:=fun _=>by kernel_rfl,
  z4:=fun _=>by kernel_rfl,
  v4:=fun _=>by kernel_rfl,
  t5:=by kernel_rfl,
  a5:=fun _=>by kernel_rfl,
  z5:=fun _=>by kernel_rfl,
  v5:=fun _=>by kernel_rfl,
  t9:=by kernel_rfl,
  a9:=fun _=>by kernel_rfl,
  z9:=fun _=>by kernel_rfl,
  v9:=fun _=>by kernel_rfl,
  t21:=by kernel_rfl,
  a21:=fun _=>by kernel_rfl,
  z21:=fun _=>by kernel_rfl,
  v21:=fun _=>by kernel_rfl,
  t46:=by kernel_rfl,
  a46:=fun _=>by kernel_rfl,
  z46:=fun _=>by kernel_rfl,
  v46:=fun _=>by kernel_rfl,
  t105:=by kernel_rfl,
  a105:=fun _=>by kernel_rfl,
  z105:=fun _=>by kernel_rfl,
  v105:=fun _=>by kernel_rfl,
  t116:=by kernel_rfl,
  a116:=fun _=>by kernel_rfl,
  z116:=fun _=>by kernel_rfl,
  t117:=by kernel_rfl,
  a117:=fun _=>by kernel_rfl,
  z117:=fun _=>by kernel_rfl,
  v117:=fun _=>by kernel_rfl,
  t119:=by kernel_rfl,
  a119:=fun _=>by kernel_rfl,
  z119:=fun _=>by kernel_rfl,
  t124:=by kernel_rfl,
  a124:=fun _=>by kernel_rfl,
  z124:=fun _=>by kernel_rfl,
  v124:=fun _=>by kernel_rfl,
  t138:=by kernel_rfl,
  a138:=fun _=>by kernel_rfl,
  z138:=fun _=>by kernel_rfl,
  v138:=fun _=>by kernel_rfl,
  t139:=by kernel_rfl,
  a139:=fun _=>by kernel_rfl,
  z139:=fun _=>by kernel_rfl,
  v139:=fun _=>by kernel_rfl,
  g3:=by kernel_rfl,
  g4:=by kernel_rfl}
theorem lay161:Go.Proofs.Lays.n161 Tryz.prog ren:=
 {mixed:=by kernel_rfl,
  f119:=by kernel_rfl,
  f137:=by kernel_rfl,
  f151:=by kernel_rfl,
  f152:=by kernel_rfl,
  f161:=by kernel_rfl,
  f197:=by kernel_rfl,
  f217:=by kernel_rfl,
  f224:=by kernel_rfl,
  f225:=by kernel_rfl,
  f227:=by kernel_rfl,
  f228:=by kernel_rfl,
  f231:=by kernel_rfl,
  f233:=by kernel_rfl,
  f235:=by kernel_rfl,
  f260:=by kernel_rfl,
  f266:=by kernel_rfl,
  t0:=by kernel_rfl,
  a0:=fun _=>by kernel_rfl,
  z0:=fun _=>by kernel_rfl,
  v0:=fun _=>by kernel_rfl,
  t3:=by kernel_rfl,
  a3:=fun _=>by kernel_rfl,
  z3:=fun _=>by kernel_rfl,
  v3:=fun _=>by kernel_rfl,
  t4:=by kernel_rfl,
  a4:=fun _=>by kernel_rfl,
  z4:=fun _=>by kernel_rfl,
  v4:=fun _=>by kernel_rfl,
  t5:=by kernel_rfl,
  a5:=fun _=>by kernel_rfl,
  z5:=fun _=>by kernel_rfl,
  v5:=fun _=>by kernel_rfl,
  t9:=by kernel_rfl,
  a9:=fun _=>by kernel_rfl,
  z9:=fun _=>by kernel_rfl,
  v9:=fun _=>by kernel_rfl,
  t21:=by kernel_rfl,
  a21:=fun _=>by kernel_rfl,
  z21:=fun _=>by kernel_rfl,
  v21:=fun _=>by kernel_rfl,
  t46:=by kernel_rfl,
  a46:=fun _=>by kernel_rfl,
  z46:=fun _=>by kernel_rfl,
  v46:=fun _=>by kernel_rfl,
  t105:=by kernel_rfl,
  a105:=fun _=>by kernel_rfl,
  z105:=fun _=>by kernel_rfl,
  v105:=fun _=>by kernel_rfl,
  t116:=by kernel_rfl,
  a116:=fun _=>by kernel_rfl,
  z116:=fun _=>by kernel_rfl,
  t117:=by kernel_rfl,
  a117:=fun _=>by kernel_rfl,
  z117:=fun _=>by kernel_rfl,
  v117:=fun _=>by kernel_rfl,
  t119:=by kernel_rfl,
  a119:=fun _=>by kernel_rfl,
  z119:=fun _=>by kernel_rfl,
  t124:=by kernel_rfl,
  a124:=fun _=>by kernel_rfl,
  z124:=fun _=>by kernel_rfl,
  v124:=fun _=>by kernel_rfl,
  t138:=by kernel_rfl,
  a138:=fun _=>by kernel_rfl,
  z138:=fun _=>by kernel_rfl,
  v138:=fun _=>by kernel_rfl,
  t139:=by kernel_rfl,
  a139:=fun _=>by kernel_rfl,
  z139:=fun _=>by kernel_rfl,
  v139:=fun _=>by kernel_rfl,
  g3:=by kernel_rfl,
  g4:=by kernel_rfl}
theorem lay137:Go.Proofs.Lays.n137 Tryz.prog ren:=
 {mixed:=by kernel_rfl,
  f137:=by kernel_rfl,
  f217:=by kernel_rfl,
  f266:=by kernel_rfl,
  t3:=by kernel_rfl,
  a3:=fun _=>by kernel_rfl,
  z3:=fun _=>by kernel_rfl,
  v3:=fun _=>by kernel_rfl,
  t5:=by kernel_rfl,
  a5:=fun _=>by kernel_rfl,
  z5:=fun _=>by kernel_rfl,
  v5:=fun _=>by kernel_rfl,
  t9:=by kernel_rfl,
  a9:=fun _=>by kernel_rfl,
  z9:=fun _=>by kernel_rfl,
  v9:=fun _=>by kernel_rfl}
theorem lay144:Go.Proofs.Lays.n144 Tryz.prog ren:=
 {mixed:=by kernel_rfl,
  f143:=by kernel_rfl,
  f144:=by kernel_rfl,
  f217:=by kernel_rfl,
  f219:=by kernel_rfl,
  f224:=by kernel_rfl,
  f225:=by kernel_rfl,
  f266:=by kernel_rfl,
  f267:=by kernel_rfl,
  f314:=by kernel_rfl,
  t3:=by kernel_rfl,
  a3:=fun _=>by kernel_rfl,
  z3:=fun _=>by kernel_rfl,
  v3:=fun _=>by kernel_rfl,
  t4:=by kernel_rfl,
  a4:=fun _=>by kernel_rfl,
  z4:=fun _=>by kernel_rfl,
  v4:=fun _=>by kernel_rfl,
  t5:=by kernel_rfl,
  a5:=fun _=>by kernel_rfl,
  z5:=fun _=>by kernel_rfl,
  v5:=fun _=>by kernel_rfl,
  t9:=by kernel_rfl,
  a9:=fun _=>by kernel_rfl,
  z9:=fun _=>by kernel_rfl,
  v9:=fun _=>by kernel_rfl,
  t46:=by kernel_rfl,
  a46:=fun _=>by kernel_rfl,
  z46:=fun _=>by kernel_rfl,
  v46:=fun _=>by kernel_rfl,
  t51:=by kernel_rfl,
  a51:=fun _=>by kernel_rfl,
  z51:=fun _=>by kernel_rfl,
  v51:=fun _=>by kernel_rfl,
  t146:=by kernel_rfl,
  a146:=fun _=>by kernel_rfl,
  z146:=fun _=>by kernel_rfl,
  v146:=fun _=>by kernel_rfl,
  g1:=by kernel_rfl}
end Go.Proofs.YtclgllmipcbagaaGreatDoor
