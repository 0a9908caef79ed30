/-
  Parts of the proof: XSt XSo XSp XSq XU0 XTe
-/
import Derived.Test.YtclgllmipcbagaaGreatDoorBk14
import Derived.Test.YtclgllmipcbagaaGreatDoorBk13
import Derived.Shelf.Strings.Split
import Derived.Shelf.Strings.Cut
import Derived.Shelf.Strings.Prefix
import Derived.Lib.ConvBytes
import Derived.Test.YtclgllmipcbagaaGreatDoorBk07
namespace Go.Proofs.YtclgllmipcbagaaGreatDoor
open Go.RowKit
set_option linter.unusedVariables false
set_option linter.unusedSimpArgs false
set_option maxRecDepth 100000
set_option maxHeartbeats 16000000
def noB (l:List UInt8):Bool:=l.all fun c=> !(c==32)
def parts32:List UInt8→List (List UInt8)
 |[]=>[[]]
 |c::r=>if c=32 then[]::parts32 r else
  match parts32 r with
  |[]=>[[c]]
  |p::q=>(c::p)::q
theorem parts32_ne:∀l,parts32 l≠[]
 |[]=>by simp[parts32]
 |c::r=>by
  unfold parts32;split
  ·simp
  ·split<;>simp
theorem parts32_blank (r:List UInt8):parts32 (32::r)=[]::parts32 r:=by simp[parts32]
theorem parts32_other {c:UInt8}(h:c≠32){r p:List UInt8}{q:List (List UInt8)}(e:parts32 r=p::q):parts32 (c::r)=(c::p)::q:=by
 unfold parts32;rw[if_neg h,e]
theorem parts32_word:∀{a:List UInt8},noB a=true→parts32 a=[a]
 |[],_=>rfl
 |c::r,h=>by
  simp only[noB,List.all_cons,Bool.and_eq_true,Bool.not_eq_true',beq_eq_false_iff_ne]at h;exact parts32_other h.1 (parts32_word (a:=r) h.2)
theorem parts32_cons (b:List UInt8):∀{a:List UInt8},noB a=true→parts32 (a++32::b)=a::parts32 b
 |[],_=>parts32_blank b
 |c::r,h=>by
  simp only[noB,List.all_cons,Bool.and_eq_true,Bool.not_eq_true',beq_eq_false_iff_ne]at h;exact parts32_other h.1 (parts32_cons b (a:=r) h.2)
def joinB:List (List UInt8)→List UInt8
 |[]=>[]
 |[x]=>x
 |x::y::r=>x++32::joinB (y::r)
theorem joinB_cons (x:List UInt8){l:List (List UInt8)}(h:l≠[]):joinB (x::l)=x++32::joinB l:=by
 match l,h with
 |y::r,_=>rfl
theorem joinB_parts:∀l,joinB (parts32 l)=l
 |[]=>rfl
 |c::r=>by
  have ih:=joinB_parts r;have hne:=parts32_ne r;by_cases h:c=32
  ·subst h
   rw[parts32_blank,joinB_cons _ hne,ih];rfl
  ·cases e:parts32 r with
   |nil=>exact absurd e hne
   |cons p q=>
    rw[parts32_other h e]
    rw[e]at ih
    match q with
    |[]=>show c::p=c::r;rw[← ih];rfl
    |y::q'=>
     rw[joinB_cons _ (by simp)]at ih⊢
     rw[← ih]
     rfl
theorem noB_itoa (n:Int):noB (Lib.itoa n)=true:=by
 have hd:∀u:Nat,noB (Lib.decDigits u)=true:=fun u=>by
  have:=(dec_num u).2.1;unfold noB;rw[List.all_eq_true]at this⊢;intro c hc;have:=digs (this c hc);simp only[Bool.not_eq_true',beq_eq_false_iff_ne];intro e;rw[e]at this;have h32:(32:UInt8).toNat=32:=rfl;omega
 by_cases h:n<0
 ·rw[itoa_neg h,itoa_nat (by omega)]
  have:=hd (-n).toNat;unfold noB at this⊢;rw[List.all_cons,this];rfl
 ·rw[itoa_nat (by omega)]
  exact hd _
theorem noB_word {l:List UInt8}(h:wordErr l=0):noB l=true∧l≠[]∧l.length≤24:=by
 unfold wordErr at h;split at h
 ·omega
 ·rename_i h1
  simp only[Bool.or_eq_true,Bool.not_eq_true',not_or,Bool.not_eq_false,Bool.not_eq_true]at h1;obtain⟨h1,h2⟩:=h1;split at h
  ·omega
  ·refine⟨?_,by simpa using h1,by omega⟩
   unfold noB;rw[List.all_eq_true]at h2⊢;intro c hc;have:=h2 c hc;unfold isLet at this;simp only[Bool.and_eq_true,decide_eq_true_eq]at this;simp only[Bool.not_eq_true',beq_eq_false_iff_ne];intro e;rw[e]at this;have h32:(32:UInt8).toNat=32:=rfl;omega
theorem intsT_cons (n:Int)(l:List Int):intsT (n::l)=32::(Lib.itoa n++intsT l):=by simp[intsT]
theorem parts32_ints:∀(l:List Int) {a:List UInt8},noB a=true→parts32 (a++intsT l)=a::l.map Lib.itoa
 |[],a,h=>by
  show parts32 (a++[])=_;rw[List.append_nil,parts32_word h];rfl
 |n::l,a,h=>by
  rw[intsT_cons,parts32_cons _ h,parts32_ints l (noB_itoa n)];rfl
def wLet:List UInt8:=[108,101,116]
def wPut:List UInt8:=[112,117,116]
def wFire:List UInt8:=[102,105,114,101]
def wStab:List UInt8:=[115,116,97,98,105,108,105,122,101]
def wRed:List UInt8:=[114,101,100,117,99,101]
def wAdd:List UInt8:=[97,100,100]
def wDrop:List UInt8:=[100,114,111,112]
def wUndo:List UInt8:=[117,110,100,111]
def wRedo:List UInt8:=[114,101,100,111]
def wOn:List UInt8:=[111,110]
def wAt:List UInt8:=[97,116]
def verbsW:List (List UInt8):=[wLet,wPut,wFire,wStab,wRed,wAdd,wDrop,wUndo,wRedo]
def kIx (w:List UInt8):Int:=
 if w=wLet then 0 else if w=wPut then 1 else if w=wFire then 2 else if w=wStab then 3 else if w=wRed then 4 else if w=wAdd then 5 else if w=wDrop then 6 else if w=wUndo then 7 else if w=wRedo then 8 else -1
def textOf (c:Cmd):List UInt8:=
 if c.kind=0 then wLet++32::(c.name++32::(graphR c.g).2)
 else if c.kind=1 then wPut++32::(c.name++32::(wOn++32::(c.on++intsT c.vals)))
 else if c.kind=2 then wFire++32::(c.name++intsT c.vals)
 else if c.kind=3 then wStab++32::(c.name++32::(wAt++intsT [c.q]))
 else if c.kind=4 then wRed++32::(c.name++32::(wAt++intsT [c.q]))
 else if c.kind=5 then wAdd++32::(c.name++32::(c.on++32::c.other))
 else if c.kind=6 then wDrop++32::c.name
 else if c.kind=7 then wUndo
 else wRedo
def textR (c:Cmd):Int×List UInt8:=if rightErr c≠0 then(rightErr c,[])else limR (textOf c)
theorem right_ok {c:Cmd}(h:rightErr c=0):0≤c.kind∧c.kind≤8∧wordsErr c=0∧numsErr c=0∧spare c=false:=by
 unfold rightErr at h;split at h
 ·omega
 ·rename_i h1
  split at h
  ·rename_i h2;exact absurd h h2
  ·rename_i h2
   split at h
   ·rename_i h3;exact absurd h h3
   ·rename_i h3
    split at h
    ·omega
    ·rename_i h4
     exact⟨by omega,by omega,by simpa using h2,by simpa using h3,by simpa using h4⟩
theorem cwords_ok {c:Cmd}(h:wordsErr c=0):(kName c.kind=true→wordErr c.name=0)∧(kOn c.kind=true→wordErr c.on=0)∧(kOther c.kind=true→wordErr c.other=0):=by
 unfold wordsErr at h;split at h
 ·rename_i h1
  simp[h]at h1
 ·rename_i h1
  split at h
  ·rename_i h2
   simp[h]at h2
  ·rename_i h2
   refine⟨fun k=>by simpa[k]using h1,fun k=>by simpa[k]using h2,fun k=> ?_⟩;rw[if_pos k]at h;exact h
theorem cnums_ok {c:Cmd}(h:numsErr c=0):(kAt c.kind=true→0≤c.q∧c.q<12)∧(c.kind=0→checkErr c.g=0)∧(kVals c.kind=true→1≤c.vals.length∧c.vals.length≤12∧dErr c.vals c.vals.length=0):=by
 unfold numsErr at h;split at h
 ·omega
 ·rename_i h1
  split at h
  ·rename_i h2
   simp[h]at h2
  ·rename_i h2
   refine⟨fun k=> ?_,fun k=>by simpa[k]using h2,fun k=> ?_⟩
   ·simp only[k,Bool.true_and,Bool.or_eq_true,decide_eq_true_eq,not_or]at h1
    omega
   ·rw[if_neg (by simp[k])]at h
    split at h
    ·omega
    ·rename_i h3
     exact⟨by omega,by omega,h⟩
theorem cspare_ok {c:Cmd}(h:spare c=false):(kName c.kind=false→c.name=[])∧(kOn c.kind=false→c.on=[])∧(kOther c.kind=false→c.other=[])∧(kAt c.kind=false→c.q=0)∧(kVals c.kind=false→c.vals=[])∧(c.kind≠0→c.g=⟨0,[]⟩):=by
 unfold spare at h;simp only[Bool.or_eq_false_iff]at h;obtain⟨⟨⟨⟨⟨h1,h2⟩,h3⟩,h4⟩,h5⟩,h6⟩:=h;refine⟨fun k=>by simpa[k]using h1,fun k=>by simpa[k]using h2,fun k=>by simpa[k]using h3,fun k=>by simpa[k]using h4,fun k=>by simpa[k]using h5,fun k=> ?_⟩;simp only[k,ne_eq,not_false_iff,decide_true,Bool.true_and,Bool.not_eq_false']at h6;unfold zeroG at h6;simp only[Bool.and_eq_true,decide_eq_true_eq]at h6;have:c.g=⟨c.g.n,c.g.es⟩:=rfl;rw[this,h6.1,h6.2]
def atoiV (l:List UInt8):Int:=match Lib.atoiAll l with| .ok n=>n| .syntax=>0| .range=>Lib.atoiSat l
theorem atoiV_itoa {n:Int}(h0: -1099511627776≤n)(h1:n≤1099511627776):atoiV (Lib.itoa n)=n:=by
 have hd:∀u:Nat,u<9223372036854775808→Lib.atoiAll (Lib.decDigits u)= .ok (u:Int):=fun u hu=>by
  obtain⟨d1,d2,d3,_⟩:=dec_num u;rw[atoi_dig d3 d2,d1,if_pos hu]
 unfold atoiV;by_cases h:n<0
 ·rw[itoa_neg h,itoa_nat (by omega)]
  obtain⟨d1,d2,d3,_⟩:=dec_num (-n).toNat;have hp:=parse_dig (Lib.decDigits (-n).toNat) 0 d2 (by decide);have e:numFrom 0 (Lib.decDigits (-n).toNat)=(-n).toNat:=d1;rw[e,if_pos (by omega)]at hp;have:Lib.atoiAll (45::Lib.decDigits (-n).toNat)= .ok n:=by
   unfold Lib.atoiAll;have h45:(45:UInt8).toNat=45:=rfl;dsimp only;rw[if_pos (.inr h45)];unfold Lib.parseMag;rw[if_neg (by simpa using d3),hp];dsimp only;rw[if_neg (by simp[h45]),if_neg (by simp[h45];omega),if_pos h45];congr 1;omega
  rw[this]
 ·rw[itoa_nat (by omega),hd _ (by omega)]
  dsimp only;omega
def grOf (t:List UInt8):G:=(tableP wGraph 45 true (opened (scanR t))).1
theorem grOf_text {g:G}(h:checkErr g=0)(hl:(graphR g).1=0):grOf (graphR g).2=g:=by
 unfold grOf;rw[(graph_back hl).1]
def guessP (t:List UInt8):Cmd:=
 let l:=parts32 t
 let k:=kIx (l[0]?.getD [])
 if l.length<2∨k<0 then{cmd0 with kind:=k}else
 let c:Cmd:={cmd0 with kind:=k,name:=l[1]?.getD []}
 if k=0 then{c with g:=grOf (joinB (l.drop 2))}
 else if k=1 then(if 3<l.length then{c with on:=l[3]?.getD [],vals:=(l.drop 4).map atoiV}else c)
 else if k=2 then{c with vals:=(l.drop 2).map atoiV}
 else if k=3∨k=4 then{c with q:=atoiV (l[l.length-1]?.getD [])}
 else if k=5 then(if 3<l.length then{c with on:=l[2]?.getD [],other:=l[3]?.getD []}else c)
 else c
theorem cmd_ext {c d:Cmd}(h1:c.kind=d.kind)(h2:c.name=d.name)(h3:c.on=d.on)(h4:c.other=d.other)(h5:c.q=d.q)(h6:c.g=d.g)(h7:c.vals=d.vals):c=d:=by
 obtain⟨c1,c2,c3,c4,c5,c6,c7⟩:=c;obtain⟨d1,d2,d3,d4,d5,d6,d7⟩:=d;dsimp only at h1 h2 h3 h4 h5 h6 h7;rw[h1,h2,h3,h4,h5,h6,h7]
theorem vals_back {l:List Int}(h:∀x∈l,-1048576≤x∧x≤1048576):(l.map Lib.itoa).map atoiV=l:=by
 rw[List.map_map];conv=>rhs;rw[← List.map_id l]
 apply List.map_congr_left;intro x hx;have:=h x hx;exact atoiV_itoa (by omega) (by omega)
theorem text_parts {c:Cmd}(h:rightErr c=0):
 (c.kind=0→parts32 (textOf c)=wLet::c.name::parts32 (graphR c.g).2)∧(c.kind=1→parts32 (textOf c)=wPut::c.name::wOn::c.on::c.vals.map Lib.itoa)∧(c.kind=2→parts32 (textOf c)=wFire::c.name::c.vals.map Lib.itoa)∧
 (c.kind=3→parts32 (textOf c)=[wStab,c.name,wAt,Lib.itoa c.q])∧(c.kind=4→parts32 (textOf c)=[wRed,c.name,wAt,Lib.itoa c.q])∧(c.kind=5→parts32 (textOf c)=[wAdd,c.name,c.on,c.other])∧(c.kind=6→parts32 (textOf c)=[wDrop,c.name])∧
 (c.kind=7→parts32 (textOf c)=[wUndo])∧(c.kind=8→parts32 (textOf c)=[wRedo]):=by
 obtain⟨k0,k8,hw,hn,hs⟩:=right_ok h;obtain⟨w1,w2,w3⟩:=cwords_ok hw;have hname:c.kind≤6→noB c.name=true:=fun hk=>(noB_word (w1 (by simp[kName,hk]))).1;refine⟨fun k=> ?_,fun k=> ?_,fun k=> ?_,fun k=> ?_,fun k=> ?_,fun k=> ?_,fun k=> ?_,fun k=> ?_,fun k=> ?_⟩
 ·unfold textOf
  rw[if_pos k,parts32_cons _ (by decide),parts32_cons _ (hname (by omega))]
 ·unfold textOf
  rw[if_neg (by omega),if_pos k,parts32_cons _ (by decide),parts32_cons _ (hname (by omega)),parts32_cons _ (by decide),parts32_ints _ (noB_word (w2 (by simp[kOn,k]))).1]
 ·unfold textOf
  rw[if_neg (by omega),if_neg (by omega),if_pos k,parts32_cons _ (by decide),parts32_ints _ (hname (by omega))]
 ·unfold textOf
  rw[if_neg (by omega),if_neg (by omega),if_neg (by omega),if_pos k,parts32_cons _ (by decide),parts32_cons _ (hname (by omega)),parts32_ints _ (by decide)];rfl
 ·unfold textOf
  rw[if_neg (by omega),if_neg (by omega),if_neg (by omega),if_neg (by omega),if_pos k,parts32_cons _ (by decide),parts32_cons _ (hname (by omega)),parts32_ints _ (by decide)];rfl
 ·unfold textOf
  rw[if_neg (by omega),if_neg (by omega),if_neg (by omega),if_neg (by omega),if_neg (by omega),if_pos k,parts32_cons _ (by decide),parts32_cons _ (hname (by omega)),parts32_cons _ (noB_word (w2 (by simp[kOn,k]))).1,parts32_word (noB_word (w3 (by simp[kOther,k]))).1]
 ·unfold textOf
  rw[if_neg (by omega),if_neg (by omega),if_neg (by omega),if_neg (by omega),if_neg (by omega),if_neg (by omega),if_pos k,parts32_cons _ (by decide),parts32_word (hname (by omega))]
 ·unfold textOf
  rw[if_neg (by omega),if_neg (by omega),if_neg (by omega),if_neg (by omega),if_neg (by omega),if_neg (by omega),if_neg (by omega),if_pos k,parts32_word (by decide)]
 ·unfold textOf
  rw[if_neg (by omega),if_neg (by omega),if_neg (by omega),if_neg (by omega),if_neg (by omega),if_neg (by omega),if_neg (by omega),if_neg (by omega),parts32_word (by decide)]
theorem itoa_short {n:Int}(h0:0≤n)(h1:n<100):(Lib.itoa n).length≤2:=by
 rw[itoa_nat h0,Lib.decDigits_length];by_cases h:n.toNat<10
 ·rw[Lib.nDigits_small h];omega
 ·rw[Lib.nDigits_big h,Lib.nDigits_small (by omega)];omega
theorem arcs_short:∀es:List E,(∀ x∈es,InE 12 x)→(arcsT 45 es).length≤9*es.length
 |[],_=>by simp[arcsT]
 |x::es,h=>by
  have ih:=arcs_short es fun y hy=>h y (List.mem_cons_of_mem _ hy);obtain⟨h1,h2,h3,h4,h5,h6⟩:=h x (List.mem_cons_self ..);have a:=itoa_short h1 (by omega);have b:=itoa_short h3 (by omega);have c:=itoa_short (n:=x.m) (by omega) (by omega);have e:arcsT 45 (x::es)=arcT 45 x++arcsT 45 es:=by simp[arcsT]
  rw[e,List.length_append,List.length_cons];have:(arcT 45 x).length≤9:=by unfold arcT timesT;split<;>simp<;>omega
  omega
theorem graphR_ok {g:G}(h:checkErr g=0):(graphR g).1=0∧(graphR g).2.length≤1400:=by
 have hk:Gok g:=h;have hn:=hk.n;have hl:=hk.len;have ha:=arcs_short g.es fun x hx=>by
  obtain⟨h1,h2,h3,h4,h5,h6⟩:=(gok_in hk x hx).1;exact⟨h1,by omega,h3,by omega,h5,h6⟩
 have hi:=itoa_short (n:=g.n) (by omega) (by omega);have hlen:(wGraph++32::tabT 45 g).length≤1400:=by
  unfold tabT wGraph;simp;omega
 unfold graphR;rw[if_neg (by omega)];unfold limR;rw[if_neg (by omega)];exact⟨rfl,hlen⟩
theorem kIx_verb:∀k:Nat,k<9→kIx (verbsW[k]?.getD [])=(k:Int):=by decide
theorem chips_in {l:List Int}{n:Int}(h:dErr l n=0):∀x∈l,-1048576≤x∧x≤1048576:=by
 unfold dErr at h;split at h
 ·omega
 ·split at h
  ·omega
  ·split at h
   ·rename_i h3
    intro x hx;have:=List.all_eq_true.1 h3 x hx;unfold inB at this;simp only[Bool.and_eq_true,decide_eq_true_eq]at this;exact this
   ·omega
theorem guessP_of {t:List UInt8}{w n:List UInt8}{r:List (List UInt8)}(h:parts32 t=w::n::r)(hk:0≤kIx w):guessP t=
 (let c:Cmd:={cmd0 with kind:=kIx w,name:=n}
  if kIx w=0 then{c with g:=grOf (joinB r)}
  else if kIx w=1 then(if 1<r.length then{c with on:=r[1]?.getD [],vals:=(r.drop 2).map atoiV}else c)
  else if kIx w=2 then{c with vals:=r.map atoiV}
  else if kIx w=3∨kIx w=4 then{c with q:=atoiV ((w::n::r)[r.length+1]?.getD [])}
  else if kIx w=5 then(if 1<r.length then{c with on:=r[0]?.getD [],other:=r[1]?.getD []}else c)
  else c):=by
 unfold guessP;rw[h];dsimp only;have e0:(w::n::r)[0]?.getD []=w:=rfl;have e1:(w::n::r)[1]?.getD []=n:=rfl;have e2:(w::n::r)[2]?.getD []=r[0]?.getD []:=rfl;have e3:(w::n::r)[3]?.getD []=r[1]?.getD []:=rfl;have ed2:(w::n::r).drop 2=r:=rfl;have ed4:(w::n::r).drop 4=r.drop 2:=rfl;have el:(w::n::r).length=r.length+2:=rfl;rw[e0,e1,e2,e3,ed2,ed4,el,if_neg (by omega),show r.length+2-1=r.length+1 from rfl];have e3':(3<r.length+2)=(1<r.length):=by rw[eq_iff_iff];omega
 simp only[e3']
theorem guessP_text {c:Cmd}(h:rightErr c=0):guessP (textOf c)=c:=by
 obtain⟨t0,t1,t2,t3,t4,t5,t6,t7,t8⟩:=text_parts h;obtain⟨k0,k8,hw,hn,hs⟩:=right_ok h;obtain⟨s1,s2,s3,s4,s5,s6⟩:=cspare_ok hs;obtain⟨n1,n2,n3⟩:=cnums_ok hn;have hk:c.kind=0∨c.kind=1∨c.kind=2∨c.kind=3∨c.kind=4∨c.kind=5∨c.kind=6∨c.kind=7∨c.kind=8:=by omega
 rcases hk with k|k|k|k|k|k|k|k|k
 ·rw[guessP_of (t0 k) (by decide)]
  dsimp only;rw[if_pos (show kIx wLet=0 by decide),joinB_parts,grOf_text (n2 k) (graphR_ok (n2 k)).1];exact cmd_ext k.symm rfl (s2 (by simp[kOn,k])).symm (s3 (by simp[kOther,k])).symm (s4 (by simp[kAt,k])).symm rfl (s5 (by simp[kVals,k])).symm
 ·rw[guessP_of (t1 k) (by decide)]
  dsimp only;rw[if_neg (show ¬kIx wPut=0 by decide),if_pos (show kIx wPut=1 by decide),if_pos (by simp)];exact cmd_ext k.symm rfl rfl (s3 (by simp[kOther,k])).symm (s4 (by simp[kAt,k])).symm (s6 (by omega)).symm (vals_back (chips_in (n3 (by simp[kVals,k])).2.2))
 ·rw[guessP_of (t2 k) (by decide)]
  dsimp only;rw[if_neg (show ¬kIx wFire=0 by decide),if_neg (show ¬kIx wFire=1 by decide),if_pos (show kIx wFire=2 by decide)];exact cmd_ext k.symm rfl (s2 (by simp[kOn,k])).symm (s3 (by simp[kOther,k])).symm (s4 (by simp[kAt,k])).symm (s6 (by omega)).symm (vals_back (chips_in (n3 (by simp[kVals,k])).2.2))
 ·rw[guessP_of (t3 k) (by decide)]
  dsimp only;rw[if_neg (show ¬kIx wStab=0 by decide),if_neg (show ¬kIx wStab=1 by decide),if_neg (show ¬kIx wStab=2 by decide),if_pos (show kIx wStab=3∨kIx wStab=4 by decide)];have:=n1 (by simp[kAt,k]);exact cmd_ext k.symm rfl (s2 (by simp[kOn,k])).symm (s3 (by simp[kOther,k])).symm (atoiV_itoa (by omega) (by omega)) (s6 (by omega)).symm (s5 (by simp[kVals,k])).symm
 ·rw[guessP_of (t4 k) (by decide)]
  dsimp only;rw[if_neg (show ¬kIx wRed=0 by decide),if_neg (show ¬kIx wRed=1 by decide),if_neg (show ¬kIx wRed=2 by decide),if_pos (show kIx wRed=3∨kIx wRed=4 by decide)];have:=n1 (by simp[kAt,k]);exact cmd_ext k.symm rfl (s2 (by simp[kOn,k])).symm (s3 (by simp[kOther,k])).symm (atoiV_itoa (by omega) (by omega)) (s6 (by omega)).symm (s5 (by simp[kVals,k])).symm
 ·rw[guessP_of (t5 k) (by decide)]
  dsimp only;rw[if_neg (show ¬kIx wAdd=0 by decide),if_neg (show ¬kIx wAdd=1 by decide),if_neg (show ¬kIx wAdd=2 by decide),if_neg (show ¬(kIx wAdd=3∨kIx wAdd=4) by decide),if_pos (show kIx wAdd=5 by decide),if_pos (by simp)];exact cmd_ext k.symm rfl rfl rfl (s4 (by simp[kAt,k])).symm (s6 (by omega)).symm (s5 (by simp[kVals,k])).symm
 ·rw[guessP_of (t6 k) (by decide)]
  dsimp only;rw[if_neg (show ¬kIx wDrop=0 by decide),if_neg (show ¬kIx wDrop=1 by decide),if_neg (show ¬kIx wDrop=2 by decide),if_neg (show ¬(kIx wDrop=3∨kIx wDrop=4) by decide),if_neg (show ¬kIx wDrop=5 by decide)];exact cmd_ext k.symm rfl (s2 (by simp[kOn,k])).symm (s3 (by simp[kOther,k])).symm (s4 (by simp[kAt,k])).symm (s6 (by omega)).symm (s5 (by simp[kVals,k])).symm
 ·unfold guessP
  rw[t7 k];dsimp only;rw[if_pos (by simp)];exact cmd_ext k.symm (s1 (by simp[kName,k])).symm (s2 (by simp[kOn,k])).symm (s3 (by simp[kOther,k])).symm (s4 (by simp[kAt,k])).symm (s6 (by omega)).symm (s5 (by simp[kVals,k])).symm
 ·unfold guessP
  rw[t8 k];dsimp only;rw[if_pos (by simp)];exact cmd_ext k.symm (s1 (by simp[kName,k])).symm (s2 (by simp[kOn,k])).symm (s3 (by simp[kOther,k])).symm (s4 (by simp[kAt,k])).symm (s6 (by omega)).symm (s5 (by simp[kVals,k])).symm
def readP (t:List UInt8):Int×Cmd:=if 4096<t.length then(19,cmd0)else if (textR (guessP t)).1≠0∨(textR (guessP t)).2≠t then(4,cmd0)else(0,guessP t)
theorem textR_ok {c:Cmd}(h:(textR c).1=0):rightErr c=0∧(textR c).2=textOf c∧(textOf c).length≤4096:=by
 unfold textR at h⊢;by_cases h1:rightErr c=0
 ·rw[if_neg (by simp[h1])]at h⊢
  obtain⟨h2,h3⟩:=limR_ok h;exact⟨h1,h3,h2⟩
 ·rw[if_pos h1]at h;exact absurd h h1
theorem readP_text {c:Cmd}(h:(textR c).1=0):readP (textR c).2=(0,c):=by
 obtain⟨a1,a2,a3⟩:=textR_ok h;unfold readP;rw[a2,if_neg (by omega),guessP_text a1,if_neg (by rw[a2];simp[h])]
def sumB (l:List UInt8):Nat:=l.foldl (fun s b=>(131*s+b.toNat)%65521) 7
theorem sumB_lt (l:List UInt8):sumB l<65521:=by
 unfold sumB;rcases l.eq_nil_or_concat with rfl|⟨l,b,rfl⟩
 ·decide
 ·rw[List.concat_eq_append,List.foldl_append];exact Nat.mod_lt _ (by decide)
theorem sumB_snoc (l:List UInt8)(b:UInt8):sumB (l++[b])=(131*sumB l+b.toNat)%65521:=by unfold sumB;rw[List.foldl_append];rfl
theorem itoa_noC {c:UInt8}(h1:c≠45)(h2:isDig c=false)(n:Int):∀x∈Lib.itoa n,x≠c:=by
 have hd:∀u:Nat,∀x∈Lib.decDigits u,x≠c:=fun u x hx e=>by
  have:=List.all_eq_true.1 (dec_num u).2.1 x hx;rw[e,h2]at this;cases this
 by_cases h:n<0
 ·rw[itoa_neg h,itoa_nat (by omega)]
  intro x hx;rcases List.mem_cons.1 hx with rfl|hx
  ·exact fun e=>h1 e.symm
  ·exact hd _ x hx
 ·rw[itoa_nat (by omega)]
  exact hd _
def no10 (l:List UInt8):Prop:=∀x∈l,x≠10
theorem no10.app {a b:List UInt8}(h1:no10 a)(h2:no10 b):no10 (a++b):=fun x hx=>(List.mem_append.1 hx).elim (h1 x) (h2 x)
theorem no10.cons {c:UInt8}{a:List UInt8}(h1:c≠10)(h2:no10 a):no10 (c::a):=fun x hx=>by
 rcases List.mem_cons.1 hx with rfl|hx
 ·exact h1
 ·exact h2 x hx
theorem no10.nil:no10 []:=fun x hx=>by cases hx
theorem no10.lit {a:List UInt8}(h:a.all (fun c=> !(c==10))=true):no10 a:=fun x hx=>by
 have:=List.all_eq_true.1 h x hx;simpa using this
theorem no10.word {l:List UInt8}(h:wordErr l=0):no10 l:=fun x hx e=>by
 have:=List.all_eq_true.1 (wordErr_ok h).2.1 x hx;rw[e]at this;exact absurd this (by decide)
theorem no10.itoa (n:Int):no10 (Lib.itoa n):=itoa_noC (by decide) (by decide) n
theorem no10.flat {α:Type}{f:α→List UInt8}{l:List α}(h:∀x∈l,no10 (f x)):no10 (l.flatMap f):=fun y hy=>by
 obtain⟨x,hx,hy⟩:=List.mem_flatMap.1 hy;exact h x hx y hy
theorem no10.ints (l:List Int):no10 (intsT l):=no10.flat fun n _=>no10.cons (by decide) (no10.itoa n)
theorem no10.graph {g:G}(h:(graphR g).1=0):no10 (graphR g).2:=by
 rw[(graph_text h).2.1];refine(no10.lit (by decide)).app (no10.cons (by decide) ?_);unfold tabT;refine(no10.itoa _).app (no10.cons (by decide) (no10.flat fun x _=> ?_));unfold arcT timesT;refine no10.cons (by decide) ((no10.itoa _).app (no10.cons (by decide) ((no10.itoa _).app ?_)));split
 ·exact no10.nil
 ·exact no10.cons (by decide) (no10.itoa _)
theorem no10.text {c:Cmd}(h:rightErr c=0):no10 (textOf c):=by
 obtain⟨k0,k8,hw,hn,hs⟩:=right_ok h;obtain⟨w1,w2,w3⟩:=cwords_ok hw;obtain⟨n1,n2,n3⟩:=cnums_ok hn;have b32:(32:UInt8)≠10:=by decide
 unfold textOf;by_cases k:c.kind=0
 ·rw[if_pos k]
  exact(no10.lit (by decide)).app (no10.cons b32 ((no10.word (w1 (by simp[kName,k]))).app (no10.cons b32 (no10.graph (graphR_ok (n2 k)).1))))
 rw[if_neg k];by_cases k:c.kind=1
 ·rw[if_pos k]
  exact(no10.lit (by decide)).app (no10.cons b32 ((no10.word (w1 (by simp[kName,k]))).app (no10.cons b32 ((no10.lit (by decide)).app (no10.cons b32 ((no10.word (w2 (by simp[kOn,k]))).app (no10.ints _)))))))
 rw[if_neg k];by_cases k:c.kind=2
 ·rw[if_pos k]
  exact(no10.lit (by decide)).app (no10.cons b32 ((no10.word (w1 (by simp[kName,k]))).app (no10.ints _)))
 rw[if_neg k];by_cases k:c.kind=3
 ·rw[if_pos k]
  exact(no10.lit (by decide)).app (no10.cons b32 ((no10.word (w1 (by simp[kName,k]))).app (no10.cons b32 ((no10.lit (by decide)).app (no10.ints _)))))
 rw[if_neg k];by_cases k:c.kind=4
 ·rw[if_pos k]
  exact(no10.lit (by decide)).app (no10.cons b32 ((no10.word (w1 (by simp[kName,k]))).app (no10.cons b32 ((no10.lit (by decide)).app (no10.ints _)))))
 rw[if_neg k];by_cases k:c.kind=5
 ·rw[if_pos k]
  exact(no10.lit (by decide)).app (no10.cons b32 ((no10.word (w1 (by simp[kName,k]))).app (no10.cons b32 ((no10.word (w2 (by simp[kOn,k]))).app (no10.cons b32 (no10.word (w3 (by simp[kOther,k]))))))))
 rw[if_neg k];by_cases k:c.kind=6
 ·rw[if_pos k]
  exact(no10.lit (by decide)).app (no10.cons b32 (no10.word (w1 (by simp[kName,k]))))
 rw[if_neg k];split
 ·exact no10.lit (by decide)
 ·exact no10.lit (by decide)
theorem no10.textR {c:Cmd}(h:(textR c).1=0):no10 (textR c).2:=by
 obtain⟨a1,a2,a3⟩:=textR_ok h;rw[a2];exact no10.text a1
theorem index_cons (c b:UInt8)(l:List UInt8):Lib.index (b::l) [c]=if b=c then 0 else if Lib.index l [c]= -1 then -1 else Lib.index l [c]+1:=by
 have e:Lib.index (b::l) [c]=if List.isPrefixOf [c] (b::l)then 0 else if Lib.index l [c]== -1 then -1 else Lib.index l [c]+1:=rfl;rw[e];by_cases h:b=c
 ·subst h;simp
 ·have h2:¬c=b:=fun e=>h e.symm
  simp[h,h2]
theorem index_hit1 {c:UInt8}:∀{a:List UInt8} (b:List UInt8),(∀ x∈a,x≠c)→Lib.index (a++c::b) [c]=a.length
 |[],b,_=>by rw[List.nil_append,index_cons,if_pos rfl];rfl
 |x::a,b,h=>by
  rw[List.cons_append,index_cons,if_neg (h x (List.mem_cons_self ..)),index_hit1 b fun y hy=>h y (List.mem_cons_of_mem _ hy),if_neg (by omega)];simp
theorem first_of (c:UInt8):∀s:List UInt8,(∀ x∈s,x≠c)∨∃a b,s=a++c::b∧∀x∈a,x≠c
 |[]=> .inl fun x hx=>by cases hx
 |x::s=>by
  by_cases h:x=c
  ·subst h;exact .inr ⟨[],s,rfl,fun y hy=>by cases hy⟩
  ·rcases first_of c s with h2|⟨a,b,rfl,h2⟩
   ·refine .inl fun y hy=> ?_
    rcases List.mem_cons.1 hy with rfl|hy
    ·exact h
    ·exact h2 y hy
   ·refine .inr ⟨x::a,b,rfl,fun y hy=> ?_⟩
    rcases List.mem_cons.1 hy with rfl|hy
    ·exact h
    ·exact h2 y hy
theorem count_no {c:UInt8}{a:List UInt8}(h:∀x∈a,x≠c):a.count c=0:=List.count_eq_zero.2 fun hc=>h c hc rfl
theorem noB_of {a:List UInt8}(h:∀x∈a,x≠32):noB a=true:=by
 unfold noB;rw[List.all_eq_true];intro x hx;simpa using h x hx
theorem split_parts:∀(n:Nat) (s:List UInt8),s.length≤n→Lib.splitK [32] 0 (s.count 32) s=parts32 s
 |n,s,hn=>by
  rcases first_of 32 s with h|⟨a,b,rfl,h⟩
  ·rw[count_no h,parts32_word (noB_of h)];rfl
  ·match n,hn with
   |0,hn=>simp at hn
   |n+1,hn=>
    have hc:(a++32::b).count 32=b.count 32+1:=by rw[List.count_append,count_no h,List.count_cons];simp
    rw[hc,parts32_cons b (noB_of h)]
    unfold Lib.splitK
    have hi:=index_hit1 b h
    rw[hi]
    have hne:((a.length:Int)== -1)=false:=by rw[beq_eq_false_iff_ne];omega
    rw[hne]
    simp only[Bool.false_eq_true,if_false,Int.toNat_natCast,Nat.add_zero,List.length_singleton]
    have e1:(a++32::b).take a.length=a:=by simp
    have e2:(a++32::b).drop (a.length+1)=b:=by
     rw[← List.drop_drop];simp
    rw[e1,e2,split_parts n b (by simp at hn;omega)]
def renSp:Go.Shelf.Ren:=⟨fun|102=>89|138=>226|143=>227|145=>134|146=>111|195=>289|197=>285|207=>186|209=>137|217=>315|218=>290|219=>252|220=>185|221=>173|224=>317|225=>316|260=>342|266=>359|267=>318|268=>225|314=>360|n=>n,fun|0=>0|3=>3|4=>4|5=>5|9=>9|21=>21|31=>103|46=>320|51=>378|59=>190|105=>351|119=>426|138=>428|139=>429|146=>411|n=>n,fun|1=>1|3=>4|4=>5|n=>n⟩
theorem lay146:Go.Proofs.Lays.n146 Tryz.prog renSp:=
 {mixed:=by kernel_rfl,
  f138:=by kernel_rfl,
  f143:=by kernel_rfl,
  f146:=by kernel_rfl,
  f195:=by kernel_rfl,
  f197:=by kernel_rfl,
  f217:=by kernel_rfl,
  f218:=by kernel_rfl,
  f219:=by kernel_rfl,
  f221:=by kernel_rfl,
  f224:=by kernel_rfl,
  f225:=by kernel_rfl,
  f260:=by kernel_rfl,
  f266:=by kernel_rfl,
  f267:=by kernel_rfl,
  f268:=by kernel_rfl,
  f314:=by kernel_rfl,
  t0:=by kernel_rfl,
  a0:=fun _=>by kernel_rfl,
  z0:=fun _=>by kernel_rfl,
  v0:=fun _=>by kernel_rfl,
  t3:=by kernel_rfl,
  a3:=fun _=>by kernel_rfl,
  z3:=fun _=>by kernel_rfl,
  v3:=fun _=>by kernel_rfl,
  t4:=by kernel_rfl,
  a4:=fun _=>by kernel_rfl,
  z4:=fun _=>by kernel_rfl,
  v4:=fun _=>by kernel_rfl,
  t5:=by kernel_rfl,
  a5:=fun _=>by kernel_rfl,
  z5:=fun _=>by kernel_rfl,
  v5:=fun _=>by kernel_rfl,
  t9:=by kernel_rfl,
  a9:=fun _=>by kernel_rfl,
  z9:=fun _=>by kernel_rfl,
  v9:=fun _=>by kernel_rfl,
  t21:=by kernel_rfl,
  a21:=fun _=>by kernel_rfl,
  z21:=fun _=>by kernel_rfl,
  v21:=fun _=>by kernel_rfl,
  t31:=by kernel_rfl,
  a31:=fun _=>by kernel_rfl,
  z31:=fun _=>by kernel_rfl,
  v31:=fun _=>by kernel_rfl,
  t46:=by kernel_rfl,
  a46:=fun _=>by kernel_rfl,
  z46:=fun _=>by kernel_rfl,
  v46:=fun _=>by kernel_rfl,
  t51:=by kernel_rfl,
  a51:=fun _=>by kernel_rfl,
  z51:=fun _=>by kernel_rfl,
  v51:=fun _=>by kernel_rfl,
  t105:=by kernel_rfl,
  a105:=fun _=>by kernel_rfl,
  z105:=fun _=>by kernel_rfl,
  v105:=fun _=>by kernel_rfl,
  t119:=by kernel_rfl,
  a119:=fun _=>by kernel_rfl,
  z119:=fun _=>by kernel_rfl,
  t138:=by kernel_rfl,
  a138:=fun _=>by kernel_rfl,
  z138:=fun _=>by kernel_rfl,
  v138:=fun _=>by kernel_rfl,
  t139:=by kernel_rfl,
  a139:=fun _=>by kernel_rfl,
  z139:=fun _=>by kernel_rfl,
  v139:=fun _=>by kernel_rfl,
  t146:=by kernel_rfl,
  a146:=fun _=>by kernel_rfl,
  z146:=fun _=>by kernel_rfl,
  v146:=fun _=>by kernel_rfl,
  g1:=by kernel_rfl,
  g3:=by kernel_rfl,
  g4:=by kernel_rfl}
theorem str_dataL (l:List UInt8):(str l).data.toList=l:=rfl
theorem parts_len (l:List UInt8):(parts32 l).length=l.count 32+1:=by
 have h:∀(n:Nat) (s:List UInt8),s.length≤n→(parts32 s).length=s.count 32+1:=by
  intro n;induction n with
  |zero=>intro s hs;rw[List.length_eq_zero_iff.1 (Nat.le_zero.1 hs)];rfl
  |succ n ih=>
   intro s hs
   rcases first_of 32 s with h|⟨a,b,rfl,h⟩
   ·rw[count_no h,parts32_word (noB_of h)];rfl
   ·rw[parts32_cons b (noB_of h),List.length_cons,ih b (by simp at hs;omega),List.count_append,count_no h,List.count_cons];simp
 exact h l.length l (Nat.le_refl _)
theorem info_strS:(Tryz.prog.info? 9).map (fun i=>(i.zero,i.size,i.bytes))=some (some (.string ByteArray.empty),1,16):=by kernel_rfl
theorem c_Split (l:List UInt8)(m:Int)(w:World)(hl:l.length<4294967281)(hm:w.cell? ⟨1,0,none⟩=some (.int .i64 m)):
 Calls Tryz.prog 111 #[.string (str l),.string {data:= #[32]}] w fun e w'=>e= .returned (.slice (some ⟨w.heap.size,0,none⟩) (parts32 l).length (parts32 l).length)∧w'=w.alloc (.cells ((parts32 l).map fun p=>Value.string (str p)).toArray 9):=by
 refine(Any.strings_Split lay146 info_strS (str l) {data:= #[32]} m w (by rw[str_size];exact hl) hm (by decide)).mono ?_;rintro e w' ⟨h1,h2⟩;have hc:Lib.countB (str l) {data:= #[32]}=l.count 32:=by
  show Lib.count (str l).data.toList [32]=_;rw[str_dataL,Lib.count_one]
 have hs:(Lib.splitB {data:= #[32]} 0 (Lib.countB (str l) {data:= #[32]}) (str l)).map (·.data.toList)=parts32 l:=by
  rw[Lib.splitB_data,hc,str_dataL];exact split_parts _ l (Nat.le_refl _)
 have hv:(Lib.splitB {data:= #[32]} 0 (Lib.countB (str l) {data:= #[32]}) (str l)).map Value.string=(parts32 l).map fun p=>Value.string (str p):=by
  rw[← hs,List.map_map];apply List.map_congr_left;intro b _;rfl
 rw[h1,h2,hv,hc,parts_len];exact⟨rfl,rfl⟩
theorem und_strT:Tryz.prog.underlying 9=some .string:=by kernel_rfl
theorem und_bytesT:Tryz.prog.underlying 122=some (.slice 5):=by kernel_rfl
theorem und_byteT:Tryz.prog.underlying 5=some (.int .u8):=by kernel_rfl
theorem s_Sum (l:List UInt8)(w:World)(hl:l.length≤140737488355328):
 Calls Tryz.prog 26 #[.string (str l)] w fun e w'=>e= .returned (.int .i64 (sumB l))∧Below w.heap.size w w':=by
 have kc:=Lib.run_convert_string_bytes w 9 122 5 (str l) und_strT und_bytesT und_byteT;have HCE:=hid (fun j (h:j<(str l).size)=>Lib.bytesWorld_cell w 5 (str l) j h);have hz:=str_size l;rw[hz]at kc HCE;have HBW:=hid (bytes_below w 5 (str l));have hsz:=Lib.bytesWorld_size w 5 (str l);generalize Lib.bytesWorld w 5 (str l)=W1 at*
 generalize grownCap w l.length 0 5=gc at*
 go_enter Tryz.func26,Tryz.ntmps26;go_wp2_with fail;have hlg:(l.length:Int)≤140737488355328:=by omega
 have HSN:Hid (∀ k,k<l.length→sumB (l.take (k+1))=(131*sumB (l.take k)+(l[k]?.getD 0).toNat)%65521):=fun k hk=>by
  rw[List.take_succ_eq_append_getElem hk,sumB_snoc,List.getElem?_eq_getElem hk];rfl
 go_loopw [9,3] (fun i sv wr=>∃k:Nat,k≤l.length∧i= .int .i64 k∧sv= .int .i64 (sumB (l.take k))∧Hid (Below W1.heap.size W1 wr)) (fun i _ _=>l.length-(intOf i).toNat);case atStart=>exact⟨0,Nat.zero_le _,rfl,rfl,Below.refl _ _⟩
 case round=>
  obtain⟨k,hk,rfl,rfl,HB⟩:=hrel;have hS:=sumB_lt (l.take k);by_cases hlt:k<l.length
  ·have hlt':(k:Int)<(l.length:Int):=by omega
   have hk0:(0:Int)≤(k:Int):=by omega
   have wk:IntKind.i64.wrap ((k:Int)+1)=(k:Int)+1:=IntWalk.i64_in _ (by omega);have c0:wr.cell? ⟨w.heap.size,k,none⟩=some (.int .u8 ((str l).data.toList.getD k 0).toNat):=(HB.out.cell (p:=⟨w.heap.size,k,none⟩) (show w.heap.size<W1.heap.size by omega)).trans (HCE.out k hlt);have hb:w.heap.size<wr.heap.size:=by have:=HB.out.size;omega
   have HX:=hid (HSN.out k hlt);have e8:(str l).data.toList.getD k 0=l[k]?.getD 0:=by rw[str_dataL,List.getD_eq_getElem?_getD]
   rw[e8]at c0;generalize l[k]?.getD 0=x at*
   have hx:=x.toNat_lt;generalize hy:x.toNat=y at*
   generalize hs:sumB (l.take k)=s at*
   have HS:=hid hs;clear hs hy e8;have w8:IntKind.i64.wrap (y:Int)=(y:Int):=IntWalk.i64_in _ (by omega);have w1:IntKind.i64.wrap (131*(s:Int))=131*(s:Int):=IntWalk.i64_in _ (by omega);have w2:IntKind.i64.wrap (131*(s:Int)+(y:Int))=131*(s:Int)+(y:Int):=IntWalk.i64_in _ (by omega);go_wp2_with fail;go_roundw;case rel=>exact⟨k+1,by omega,by go_num,by rw[HX.out];exact congrArg (Value.int IntKind.i64) (by omega),HB⟩
   case measure=>simp[intOf];omega
  ·obtain rfl:k=l.length:=by omega
   have hlt':¬(l.length:Int)<(l.length:Int):=by omega
   rw[List.take_length]at*
   go_wp2_with fail;go_ret;exact⟨rfl,up HBW.out HB.out⟩
end Go.Proofs.YtclgllmipcbagaaGreatDoor
