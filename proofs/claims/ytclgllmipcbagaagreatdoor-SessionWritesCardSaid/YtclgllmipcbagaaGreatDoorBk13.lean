/-
  Parts of the proof: XN60 XN61 XN62 XN63
-/
import Derived.Test.YtclgllmipcbagaaGreatDoorBk12
import Derived.Test.YtclgllmipcbagaaGreatDoorBk08
namespace Go.Proofs.YtclgllmipcbagaaGreatDoor
set_option linter.unusedVariables false
set_option linter.unusedSimpArgs false
set_option maxRecDepth 100000
set_option maxHeartbeats 16000000
open Go.RowKit
theorem numOf_app (a:List UInt8)(c:UInt8):numOf (a++[c])=10*numOf a+(c.toNat-48):=by
 unfold numOf;rw[List.foldl_append];rfl
theorem dig_byte {i:Nat}(h:i<10):(UInt8.ofNat (48+i)).toNat=48+i:=by
 rw[UInt8.toNat_ofNat'];omega
theorem dec_num:∀u:Nat,numOf (Lib.decDigits u)=u∧(Lib.decDigits u).all isDig=true∧Lib.decDigits u≠[]∧(0<u→(Lib.decDigits u).head? ≠some 48):=by
 intro u;induction u using Nat.strongRecOn with
 |_ u ih=>
  by_cases h:u<10
  ·rw[Lib.decDigits,dif_pos h]
   have hb:=dig_byte h;refine⟨?_,?_,by simp,fun h0=> ?_⟩
   ·show 10*0+((UInt8.ofNat (48+u)).toNat-48)=u
    rw[hb];omega
   ·simp only[List.all_cons,List.all_nil,Bool.and_true]
    unfold isDig;rw[hb];simp;omega
   ·intro e
    have e2:=Option.some.inj e;have:=congrArg UInt8.toNat e2;rw[hb]at this;simp at this;omega
  ·obtain⟨i1,i2,i3,i4⟩:=ih (u/10) (by omega)
   have hb:=dig_byte (i:=u%10) (by omega);rw[Lib.decDigits,dif_neg h];refine⟨?_,?_,by simp,fun _=> ?_⟩
   ·rw[numOf_app,i1,hb];omega
   ·rw[List.all_append,i2]
    simp only[List.all_cons,List.all_nil,Bool.and_true,Bool.true_and];unfold isDig;rw[hb];simp;omega
   ·have:=i4 (by omega)
    cases hd:Lib.decDigits (u/10)with
    |nil=>exact absurd hd i3
    |cons c r=>rw[hd]at this;exact this
theorem itoa_nat {n:Int}(h:0≤n):Lib.itoa n=Lib.decDigits n.toNat:=by
 unfold Lib.itoa;rw[if_neg (by omega)]
theorem itoa_neg {n:Int}(h:n<0):Lib.itoa n=45::Lib.itoa (-n):=by
 rw[itoa_nat (n:= -n) (by omega)];unfold Lib.itoa;rw[if_pos h];congr 2;omega
theorem itoa_natB {n:Int}(h:0≤n):natB (Lib.itoa n)=true:=by
 rw[itoa_nat h];obtain⟨_,i2,i3,i4⟩:=dec_num n.toNat;unfold natB;rw[i2];by_cases h0:0<n.toNat
 ·simp[i3,i4 h0]
 ·have e:n.toNat=0:=by omega
  rw[e,Lib.decDigits_one (by decide)];rfl
theorem itoa_natR {n:Int}(h:0≤n)(h2:n≤1099511627776):natR (Lib.itoa n)=(n,0):=by
 unfold natR;have hb:=itoa_natB h;rw[if_neg (by rw[hb];decide)];have e:numOf (Lib.itoa n)=n.toNat:=by rw[itoa_nat h];exact(dec_num n.toNat).1
 rw[e,if_neg (by omega)];congr 1;omega
theorem itoa_tok {n:Int}(h:0≤n)(h2:n≤1099511627776):tokErr 1 (Lib.itoa n)=0:=by
 have hb:=itoa_natB h;have hl:(Lib.itoa n).length≤1024:=by
  rw[itoa_nat h,Lib.decDigits_length];have:=nDig_le 20 n.toNat (by omega) (by decide);omega
 show numErr (Lib.itoa n)=0;unfold numErr;have hb2:=hb;unfold natB at hb2;simp only[Bool.and_eq_true]at hb2;have q1:=hb2.1.1;have q2:=hb2.1.2;have q3:((Lib.itoa n).isEmpty|| !(Lib.itoa n).all isDig)=false:=by
  rw[q2];cases hE:(Lib.itoa n).isEmpty with
  |true=>rw[hE]at q1;cases q1
  |false=>rfl
 rw[if_neg (by rw[q3];decide),if_neg (by omega),if_pos hb]
def tW (l:List UInt8):Tok:=⟨0,l,0⟩
def tN (n:Int):Tok:=⟨1,Lib.itoa n,0⟩
def tS (c:UInt8):Tok:=⟨2,[c],0⟩
def tE:Tok:=⟨3,[],0⟩
structure Rd (s:Rs)(l:List Tok):Prop where
 e:s.e=0
 t:s.ts.map Tok.bare=l
theorem bare_get {ts:List Tok}{t:Tok}{r:List Tok}(h:ts.map Tok.bare=t::r):(ts[0]?.getD default).kind=t.kind∧(ts[0]?.getD default).text=t.text∧(ts.drop 1).map Tok.bare=r:=by
 cases ts with
 |nil=>cases h
 |cons x ts=>
  injection h with h1 h2
  subst h1
  exact⟨rfl,rfl,h2⟩
section
variable {s : Rs} {t u : Tok} {r : List Tok}
theorem Rd.now (h:Rd s (t::r)):s.now.kind=t.kind∧s.now.text=t.text:=⟨(bare_get h.t).1,(bare_get h.t).2.1⟩
theorem Rd.skip (h:Rd s (t::r)):Rd s.skip r:=⟨h.e,(bare_get h.t).2.2⟩
theorem Rd.more (h:Rd s (t::r)):s.more=decide (t.kind≠3):=by
 unfold Rs.more;rw[h.e,h.now.1];simp
theorem Rd.is (h:Rd s (t::r))(x:List UInt8):s.is x=(decide (t.kind≠3)&&decide (t.text=x)):=by
 unfold Rs.is;rw[h.more,h.now.2]
theorem Rd.need (h:Rd s (t::r))(hk:t.kind≠3):Rd (s.need t.text) r:=by
 unfold Rs.need;rw[if_pos (by rw[h.is];simp[hk])];exact h.skip
theorem Rd.num {n lo hi:Int}(h:Rd s (tN n::r))(h0:0≤n)(hb:n≤1099511627776)(hl:lo≤n)(hh:n≤hi):∃s',s.num lo hi=(n,s')∧Rd s' r:=by
 refine⟨s.skip,?_,h.skip⟩;have hr:=itoa_natR h0 hb;have ht:s.now.text=Lib.itoa n:=h.now.2;have hk:s.now.kind=1:=h.now.1;unfold Rs.num;rw[ht,hr,if_neg (by rw[h.e,hk];simp),if_neg (by simp;omega)]
end
def timesK (m:Int):List Tok:=if m=1 then[]else[tS 42,tN m]
def lnT (sign:UInt8)(x:E):List Tok:=tN x.a::tS sign::tN x.b::timesK x.m
theorem Rd.mul {s:Rs}{m:Int}{t:Tok}{r:List Tok}(h:Rd s (timesK m++t::r))(hm:1≤m∧m≤50)(ht:t.text≠[42]):∃s',s.mul=(m,s')∧Rd s' (t::r):=by
 unfold Rs.mul;unfold timesK at h;by_cases h1:m=1
 ·rw[if_pos h1]at h
  have h:Rd s (t::r):=h;subst h1;rw[if_neg (by rw[h.is];simp[ht])];exact⟨s,rfl,h⟩
 ·rw[if_neg h1]at h
  have h:Rd s (tS 42::tN m::t::r):=h;rw[if_pos (by rw[h.is];rfl)];exact h.skip.num (by omega) (by omega) (by omega) (by omega)
def InE (n:Int)(x:E):Prop:=0≤x.a∧x.a<n∧0≤x.b∧x.b<n∧1≤x.m∧x.m≤50
theorem Rd.line {s:Rs}{sign:UInt8}{n:Int}{x:E}{t:Tok}{r:List Tok}(hn:n≤1000000)(h:Rd s (lnT sign x++t::r))(hx:InE n x)(ht:t.text≠[42]):
 ∃pl s',s.line sign n=(⟨x.a,x.b,x.m,pl⟩,s')∧Rd s' (t::r):=by
 obtain⟨x1,x2,x3,x4,x5,x6⟩:=hx;have h:Rd s (tN x.a::tS sign::tN x.b::(timesK x.m++t::r)):=h;obtain⟨s1,e1,h1⟩:=h.num (lo:=0) (hi:=n-1) x1 (by omega) x1 (by omega);have h2:=h1.need (by show(2:Int)≠3;decide);have h2:Rd (s1.need [sign]) (tN x.b::(timesK x.m++t::r)):=h2;obtain⟨s3,e3,h3⟩:=h2.num (lo:=0) (hi:=n-1) x3 (by omega) x3 (by omega);obtain⟨s4,e4,h4⟩:=h3.mul ⟨x5,x6⟩ ht;refine⟨s.now.pos,s4,?_,h4⟩;unfold Rs.line;rw[e1];dsimp only;rw[e3];dsimp only;rw[e4]
theorem tw_all {α:Type}{p:α→Bool}:∀l:List α,(∀ x∈l,p x=true)→l.takeWhile p=l
 |[],_=>rfl
 |x::l,h=>by rw[List.takeWhile_cons,h x (by simp),if_pos rfl,tw_all l (fun y hy=>h y (by simp[hy]))]
theorem sorted_snoc {es:List E}{x:E}(h:SortedE (es++[x])):SortedE es∧bet x.a x.b es=0∧∀m,addE es x.a x.b m=es++[⟨x.a,x.b,m⟩]:=by
 have hpw:=(sorted_iff _).1 h;obtain⟨h1,_,h2⟩:=List.pairwise_append.1 hpw;have hs:=(sorted_iff es).2 h1;have hlt:∀y∈es,ltE y x.a x.b=true:=fun y hy=>h2 y hy x (by simp);have hbt:bet x.a x.b es=0:=bet_none _ (fun y hy=>ltE_irr (hlt y hy));refine⟨hs,hbt,fun m=> ?_⟩;have hp:posE es x.a x.b=es.length:=by
  unfold posE;rw[tw_all es hlt]
 have hf:foundE es x.a x.b=false:=by
  unfold foundE;rw[hp];simp
 have hz:=insE_new_m hf;unfold addE;rw[hz];unfold insE;rw[hf,if_neg (by decide),hp,List.take_length,List.drop_length,List.set_append_right _ _ (Nat.le_refl _),Nat.sub_self];simp
theorem insE_bet {es:List E}{x:E}(h:SortedE (es++[x])):((insE es x.a x.b)[posE es x.a x.b]?.getD default).m=0:=by
 obtain⟨hs,hb,_⟩:=sorted_snoc h;obtain⟨_,_,_,_,h1,_⟩:=addE_split hs x.a x.b 0;rw[h1,hb]
theorem itoa_star {n:Int}(h:0≤n):Lib.itoa n≠[42]:=by
 intro e;have hb:=itoa_natB h;rw[e]at hb;exact absurd hb (by decide)
theorem Rd.tab {sign:UInt8}{either:Bool}{n:Int}(hn:n≤1000000):∀(es es0:List E) (s:Rs) (f:Nat),Rd s (es.flatMap (lnT sign)++[tE])→(either=true→∀x∈es,x.a≤x.b)→(∀ x∈es,InE n x)→SortedE (es0++es)→es.length≤f→
 ∃s',tabL sign either n f es0 s=(es0++es,s')∧Rd s' [tE]
 |[],es0,s,f,h,_,_,_,_=>by
  have h:Rd s [tE]:=h;rw[List.append_nil];exact⟨s,tabL_end _ _ _ _ _ _ (by rw[h.more];rfl),h⟩
 |x::es,es0,s,0,_,_,_,_,hf=>by simp at hf
 |x::es,es0,s,f+1,h,hei,hin,hso,hf=>by
  have hx:=hin x (by simp);have hxe:lo either ⟨x.a,x.b,x.m,0⟩=x.a∧Go.Proofs.YtclgllmipcbagaaGreatDoor.hi either ⟨x.a,x.b,x.m,0⟩=x.b:=by
   cases either with
   |false=>exact⟨rfl,rfl⟩
   |true=>
    have:=hei rfl x (by simp)
    constructor
    ·show min x.a x.b=x.a;omega
    ·show max x.a x.b=x.b;omega
  have hmr:s.more=true:=by
   have h2:Rd s (tN x.a::(tS sign::tN x.b::timesK x.m++(es.flatMap (lnT sign)++[tE]))):=by
    simpa[lnT,List.append_assoc]using h
   rw[h2.more];rfl
  obtain⟨t,r,htr,hts⟩:∃t r,es.flatMap (lnT sign)++[tE]=t::r∧t.text≠[42]:=by
   cases es with
   |nil=>exact⟨tE,[],rfl,by decide⟩
   |cons y es=>exact⟨tN y.a,_,rfl,itoa_star (hin y (by simp)).1⟩
  have h3:Rd s (lnT sign x++t::r):=by
   rw[← htr,←List.append_assoc];simpa using h
  obtain⟨pl,s2,e2,h4⟩:=h3.line hn hx hts;have hs1:SortedE (es0++[x]):=by
   have hpw:=(sorted_iff _).1 hso;refine(sorted_iff _).2 (hpw.sublist ?_);exact List.Sublist.append (List.Sublist.refl _) (List.Sublist.cons_cons _ (List.nil_sublist _))
  obtain⟨_,_,had⟩:=sorted_snoc hs1;have hib:=insE_bet hs1;rw[← htr]at h4;obtain⟨s',e5,h5⟩:=Rd.tab hn es (es0++[x]) s2 f h4 (fun he y hy=>hei he y (by simp[hy])) (fun y hy=>hin y (by simp[hy])) (by rw[List.append_assoc];exact hso) (by simpa using hf);refine⟨s',?_,h5⟩;unfold tabL;rw[if_neg (by rw[hmr];decide)];dsimp only;rw[e2];dsimp only;have hlo:lo either ⟨x.a,x.b,x.m,pl⟩=x.a:=hxe.1;have hhi:Go.Proofs.YtclgllmipcbagaaGreatDoor.hi either ⟨x.a,x.b,x.m,pl⟩=x.b:=hxe.2;rw[hlo,hhi,if_neg (by rw[h4.e];simp),hib,if_neg (by have:=hx.2.2.2.2.2;omega),had];have:(es0++[x])++es=es0++x::es:=by simp
  rw[← this];exact e5
def tabT' (word:List UInt8)(sign:UInt8)(g:G):List Tok:=tW word::tN g.n::tS 58::(g.es.flatMap (lnT sign)++[tE])
theorem lnT_len (sign:UInt8)(es:List E):es.length≤(es.flatMap (lnT sign)).length:=by
 induction es with
 |nil=>simp
 |cons x es ih=>rw[List.flatMap_cons,List.length_append,List.length_cons];simp only[lnT,List.length_cons];omega
theorem Rd.tableP {word:List UInt8}{sign:UInt8}{either:Bool}{g:G}{s:Rs}(h:Rd s (tabT' word sign g))(hn:1≤g.n∧g.n≤12)(hei:either=true→∀x∈g.es,x.a≤x.b)(hin:∀x∈g.es,InE g.n x)(hso:SortedE g.es):
 tableP word sign either s=(g,0,0):=by
 have h1:=h.need (by show(0:Int)≠3;decide);have h1:Rd (s.need word) (tN g.n::tS 58::(g.es.flatMap (lnT sign)++[tE])):=h1;obtain⟨s2,e2,h2⟩:=h1.num (lo:=1) (hi:=12) (by omega) (by omega) hn.1 hn.2;have h3:=h2.need (by show(2:Int)≠3;decide);have h3:Rd (s2.need [58]) (g.es.flatMap (lnT sign)++[tE]):=h3;have hl:g.es.length≤(s2.need [58]).ts.length:=by
  have:=congrArg List.length h3.t;rw[List.length_map,List.length_append]at this;have:=lnT_len sign g.es;omega
 obtain⟨s4,e4,h4⟩:=Rd.tab (either:=either) (by omega) g.es [] (s2.need [58]) _ h3 hei hin hso hl;unfold Go.Proofs.YtclgllmipcbagaaGreatDoor.tableP Rs.head;rw[e2];dsimp only;rw[e4];dsimp only;rw[if_neg (by rw[h4.e];simp),List.nil_append]
theorem glue_app (m:Nat):∀(a b:List (Nat×Tok)),glue (a++b) m=glue a 0++glue b m
 |[],b=>rfl
 |(n,t)::a,b=>by
  show List.replicate n 32++(t.text++glue (a++b) m)=(List.replicate n 32++(t.text++glue a 0))++glue b m;rw[glue_app m a b];simp
theorem sepd_any {l:List (Nat×Tok)}(h:sepd true l)(b:Bool):sepd b l:=by
 cases l with
 |nil=>trivial
 |cons x l=>obtain⟨n,t⟩:=x;exact⟨fun _=>h.1 rfl,h.2⟩
theorem sepd_app:∀(a:List (Nat×Tok)) (b:List (Nat×Tok)) (p:Bool),sepd p a→sepd true b→sepd p (a++b)
 |[],b,p,_,h=>sepd_any h p
 |(n,t)::a,b,p,h,h2=>⟨h.1,sepd_app a b _ h.2 h2⟩
theorem sepd_flat {α:Type}(f:α→List (Nat×Tok))(hf:∀x,sepd true (f x)):∀l:List α,sepd true (l.flatMap f)
 |[]=>trivial
 |x::l=>by rw[List.flatMap_cons];exact sepd_app _ _ _ (hf x) (sepd_flat f hf l)
def ScT (t:List UInt8)(l:List Tok):Prop:=∃l',scanR t= .inr l'∧l'.map Tok.bare=l
theorem ScT.rd {t:List UInt8}{l:List Tok}(h:ScT t l):Rd (opened (scanR t)) l:=by
 obtain⟨l',h1,h2⟩:=h;rw[h1];exact⟨rfl,h2⟩
theorem scan_of_glue (L:List (Nat×Tok))(h:∀x∈L,okT x.2)(hs:sepd false L)(hl:(glue L 0).length≤4096):ScT (glue L 0) (L.map (fun x=>x.2.bare)++[tE]):=by
 obtain⟨l',h1,h2⟩:=scan_glue 0 L false 0 h hs;refine⟨l',?_,h2⟩;unfold scanR;rw[if_neg (by omega)];exact h1
theorem okT_W {l:List UInt8}(h:wordErr l=0):okT (tW l):=⟨.inl rfl,h⟩
theorem okT_N {n:Int}(h:0≤n)(h2:n≤1099511627776):okT (tN n):=⟨.inr (.inl rfl),itoa_tok h h2⟩
theorem okT_S {c:UInt8}(h:isSgn c=true):okT (tS c):=⟨.inr (.inr rfl),by show(if isSgn c=true then(0:Int)else 3)=0;rw[h];rfl⟩
def lnG (sign:UInt8)(x:E):List (Nat×Tok):=(1,tN x.a)::(0,tS sign)::(0,tN x.b)::(if x.m=1 then[]else[(0,tS 42),(0,tN x.m)])
theorem lnG_tok (sign:UInt8)(x:E):(lnG sign x).map (fun y=>y.2.bare)=lnT sign x:=by
 unfold lnG lnT timesK;by_cases h:x.m=1
 ·rw[if_pos h,if_pos h];rfl
 ·rw[if_neg h,if_neg h];rfl
theorem lnG_text (sign:UInt8)(x:E):glue (lnG sign x) 0=arcT sign x:=by
 unfold lnG arcT timesT;by_cases h:x.m=1
 ·rw[if_pos h,if_pos h]
  simp[glue,tN,tS]
 ·rw[if_neg h,if_neg h]
  simp[glue,tN,tS]
theorem lnG_sepd (sign:UInt8)(x:E):sepd true (lnG sign x):=by
 unfold lnG;refine⟨fun _ _=>by decide,fun _ h=>by simp[plainT,tS]at h,fun h=>by simp[plainT,tS]at h,?_⟩;split
 ·trivial
 ·exact⟨fun _ h=>absurd h (by decide),fun h=>absurd h (by decide),trivial⟩
theorem lnG_ok {sign:UInt8}{n:Int}{x:E}(hs:isSgn sign=true)(hn:n≤1000000)(h:InE n x):∀y∈lnG sign x,okT y.2:=by
 obtain⟨x1,x2,x3,x4,x5,x6⟩:=h;intro y hy;unfold lnG at hy;have k1:=okT_N (n:=x.a) x1 (by omega);have k2:=okT_N (n:=x.b) x3 (by omega);have k3:=okT_N (n:=x.m) (by omega) (by omega);have k4:=okT_S hs;have k5:okT (tS 42):=okT_S (by decide);split at hy
 ·simp at hy
  rcases hy with rfl|rfl|rfl
  ·exact k1
  ·exact k4
  ·exact k2
 ·simp at hy
  rcases hy with rfl|rfl|rfl|rfl|rfl
  ·exact k1
  ·exact k4
  ·exact k2
  ·exact k5
  ·exact k3
theorem glue_flat {α:Type}(f:α→List (Nat×Tok))(g:α→List UInt8)(h:∀x,glue (f x) 0=g x):∀l:List α,glue (l.flatMap f) 0=l.flatMap g
 |[]=>rfl
 |x::l=>by rw[List.flatMap_cons,List.flatMap_cons,glue_app,h,glue_flat f g h l]
theorem map_flat {α:Type}(f:α→List (Nat×Tok))(g:α→List Tok)(h:∀x,(f x).map (fun y=>y.2.bare)=g x):∀l:List α,(l.flatMap f).map (fun y=>y.2.bare)=l.flatMap g
 |[]=>rfl
 |x::l=>by rw[List.flatMap_cons,List.flatMap_cons,List.map_append,h,map_flat f g h l]
def tabGl (word:List UInt8)(sign:UInt8)(g:G):List (Nat×Tok):=(0,tW word)::(1,tN g.n)::(0,tS 58)::g.es.flatMap (lnG sign)
theorem tabGl_text (word:List UInt8)(sign:UInt8)(g:G):glue (tabGl word sign g) 0=word++32::tabT sign g:=by
 unfold tabGl tabT arcsT;show List.replicate 0 32++(word++(List.replicate 1 32++(Lib.itoa g.n++(List.replicate 0 32++([58]++glue (g.es.flatMap (lnG sign)) 0)))))=_;rw[glue_flat _ _ (lnG_text sign)];simp
theorem tabGl_tok (word:List UInt8)(sign:UInt8)(g:G):(tabGl word sign g).map (fun x=>x.2.bare)++[tE]=tabT' word sign g:=by
 unfold tabGl tabT';simp only[xA];rw[map_flat _ _ (lnG_tok sign)];rfl
theorem tabGl_sepd (word:List UInt8)(sign:UInt8)(g:G):sepd false (tabGl word sign g):=
 ⟨fun h=>absurd h (by decide),fun _ _=>by decide,fun _ h=>absurd h (by decide),sepd_any (sepd_flat _ (lnG_sepd sign) _) _⟩
theorem tabGl_ok {word:List UInt8}{sign:UInt8}{g:G}(hw:wordErr word=0)(hs:isSgn sign=true)(hn:1≤g.n∧g.n≤12)(hin:∀x∈g.es,InE g.n x):∀y∈tabGl word sign g,okT y.2:=by
 intro y hy;unfold tabGl at hy;simp only[List.mem_cons]at hy;rcases hy with rfl|rfl|rfl|hy
 ·exact okT_W hw
 ·exact okT_N (by omega) (by omega)
 ·exact okT_S (by decide)
 ·obtain⟨x,hx,hy⟩:=List.mem_flatMap.1 hy
  exact lnG_ok hs (by omega) (hin x hx) y hy
theorem scan_count:∀(n:Nat) (s:List UInt8) (p:Nat) (l:List Tok),s.length<n→fuelS s p= .inr l→l.length≤s.length+1
 |0,_,_,_,h,_=>by omega
 |n+1,[],p,l,_,h=>by rw[fuelS_end]at h;injection h with h;rw[← h];simp
 |n+1,c::r,p,l,hn,h=>by
  simp only[List.length_cons]at hn;by_cases hc:c=32
  ·subst hc;rw[fuelS_blank]at h
   have:=scan_count n r (p+1) l (by omega) h;simp only[List.length_cons];omega
  ·by_cases he:tokErr (kindOf c) (runOf (c::r))=0
   ·rw[fuelS_tok c r p hc he]at h
    have hr:=runOf_len c r;cases hz:fuelS ((c::r).drop (runOf (c::r)).length) (p+(runOf (c::r)).length)with
    |inl x=>rw[hz]at h;simp[Scn.pre]at h
    |inr l1=>
     rw[hz]at h
     simp only[Scn.pre]at h
     injection h with h
     have:=scan_count n _ _ l1 (by rw[List.length_drop];simp only[List.length_cons]at *;omega) hz
     rw[List.length_drop]at this
     rw[← h];simp only[List.length_append,List.length_cons,List.length_nil]at *;omega
   ·rw[fuelS_err c r p hc he]at h;exact absurd h (by simp)
theorem scanR_count (s:List UInt8):(Scn.toks (scanR s)).length≤4097:=by
 unfold scanR;by_cases h:4096<s.length
 ·rw[if_pos h];simp[Scn.toks]
 ·rw[if_neg h]
  cases hz:scanG (s.length+1) s 0 with
  |inl x=>simp[Scn.toks]
  |inr l=>have:=scan_count (s.length+1) s 0 l (by omega) hz;simp only[Scn.toks];omega
theorem scanR_fuel {s:List UInt8}{l:List Tok}(h:scanR s= .inr l):s.length≤4096∧fuelS s 0= .inr l:=by
 unfold scanR at h;by_cases h4:4096<s.length
 ·rw[if_pos h4]at h;exact absurd h (by simp)
 ·rw[if_neg h4]at h;exact⟨by omega,h⟩
theorem scanR_back {s:List UInt8}{z:Scn}(h4:s.length≤4096)(h:fuelS s 0=z):scanR s=z:=by
 unfold scanR;rw[if_neg (by omega)];exact h
theorem scanR_toks {s:List UInt8}{l:List Tok}(h:scanR s= .inr l):∃l0 q,l=l0++[⟨3,[],q⟩]∧∀t∈l0,okT t:=
 scan_ok (s.length+1) s 0 l (by omega) (scanR_fuel h).2
def normR (s:List UInt8):List UInt8×Int×Int:=match scanR s with| .inl x=>([],x.1,x.2)| .inr l=>((joinR l).2,0,(joinR l).1)
theorem glue_min:∀(L:List (Nat×Tok)) (l:List Tok) (b:Bool),sepd b L→l.map Tok.bare=L.map (fun x=>x.2.bare)→(glue (marked b l) 0).length≤(glue L 0).length
 |[],[],b,_,_=>Nat.le_refl _
 |[],t::l,b,_,h=>by cases h
 |x::L,[],b,_,h=>by cases h
 |(n,u)::L,t::l,b,hs,h=>by
  injection h with h1 h2
  have ht:t.text=u.text∧plainT t=plainT u:=by
   simp only[Tok.bare,Tok.mk.injEq]at h1;exact⟨h1.2.1,by unfold plainT;rw[h1.1]⟩
  have ih:=glue_min L l (plainT u) hs.2 h2;show(List.replicate (if (b&&plainT t)=true then 1 else 0) 32++(t.text++glue (marked (plainT t) l) 0)).length≤(List.replicate n 32++(u.text++glue L 0)).length;rw[ht.1,ht.2];simp only[List.length_append,List.length_replicate];have hn:(if (b&&plainT u)=true then 1 else 0)≤n:=by
   split
   ·rename_i hh
    simp only[Bool.and_eq_true]at hh;exact hs.1 hh.1 hh.2
   ·omega
  omega
theorem norm_glue (L:List (Nat×Tok))(h:∀x∈L,okT x.2)(hs:sepd false L)(hl:(glue L 0).length≤4096):∃t,normR (glue L 0)=(t,0,0)∧ScT t (L.map (fun x=>x.2.bare)++[tE]):=by
 obtain⟨l',h1,h2⟩:=scan_of_glue L h hs hl;have hc:=scanR_count (glue L 0);rw[h1]at hc;have hc:l'.length≤4097:=hc;obtain⟨l0,q,rfl,ho⟩:=scanR_toks h1;have hb0:l0.map Tok.bare=L.map (fun x=>x.2.bare):=by
  rw[List.map_append]at h2;have:=congrArg List.dropLast h2;simpa using this
 have hform:firstNZ (formAt (l0++[⟨3,[],q⟩])) 0 (l0++[(⟨3,[],q⟩:Tok)]).length=0:=form_ok l0 q ho;have hlast:(l0++[(⟨3,[],q⟩:Tok)]).getLast?.map Tok.kind=some 3:=by simp
 have hjl:(joined false (l0++[(⟨3,[],q⟩:Tok)])).length≤4096:=by
  rw[joined_glue];have:=glue_min L l0 false hs hb0;omega
 have hj:joinR (l0++[⟨3,[],q⟩])=(0,joined false (l0++[⟨3,[],q⟩])):=by
  unfold joinR;rw[if_neg (by omega),hform,hlast];simp only[ne_eq,not_true_eq_false,if_false];rw[if_neg (by omega)]
 obtain⟨l2,k1,k2⟩:=scan_join l0 q ho;refine⟨joined false (l0++[⟨3,[],q⟩]),?_,l2,scanR_back hjl k1,?_⟩
 ·unfold normR
  rw[h1];simp only;rw[hj]
 ·rw[k2,List.map_append,hb0];rfl
theorem bad_none {es0:List E}{x:Ln}(h:SortedE (es0++[lnE x]))(hab:x.a≤x.b):¬badL es0 x:=by
 rintro(h1|⟨h1,h2⟩)
 ·omega
 ·have h3:=h (es0.length-1) es0.length (by omega) (by simp)
  rw[List.getElem?_append_left (by omega),List.getElem?_append_right (Nat.le_refl _),Nat.sub_self]at h3;unfold ltE at h3;simp[lnE]at h3;omega
theorem Rd.exact {n:Int}(hn:n≤1000000):∀(es es0:List E) (s:Rs) (f:Nat) (r:List Tok),Rd s (es.flatMap (lnT 45)++tS 59::r)→(∀ x∈es,InE n x∧x.a≤x.b)→SortedE (es0++es)→es.length≤f→
 ∃s',exactG n f es0 s=(es0++es,s')∧Rd s' (tS 59::r)
 |[],es0,s,f,r,h,_,_,_=>by
  have h:Rd s (tS 59::r):=h;rw[List.append_nil];exact⟨s,exactG_end (.inr (by rw[h.is];rfl)) _,h⟩
 |x::es,es0,s,0,r,_,_,_,hf=>by simp at hf
 |x::es,es0,s,f+1,r,h,hin,hso,hf=>by
  have hx:=hin x (by simp);have hstop:¬(s.e≠0∨s.is [59]=true):=by
   have h2:Rd s (tN x.a::(tS 45::tN x.b::timesK x.m++(es.flatMap (lnT 45)++tS 59::r))):=by
    simpa[lnT,List.append_assoc]using h
   rintro(h3|h3)
   ·exact h3 h.e
   ·rw[h2.is]at h3
    simp only[Bool.and_eq_true,decide_eq_true_eq]at h3;have hb:=itoa_natB hx.1.1;have e:Lib.itoa x.a=[59]:=h3.2;rw[e]at hb;exact absurd hb (by decide)
  obtain⟨t,q,htr,hts⟩:∃t q,es.flatMap (lnT 45)++tS 59::r=t::q∧t.text≠[42]:=by
   cases es with
   |nil=>exact⟨tS 59,r,rfl,by show[(59:UInt8)]≠[42];decide⟩
   |cons y es=>exact⟨tN y.a,_,rfl,itoa_star (hin y (by simp)).1.1⟩
  have h3:Rd s (lnT 45 x++t::q):=by
   rw[← htr,←List.append_assoc];simpa using h
  obtain⟨pl,s2,e2,h4⟩:=h3.line hn hx.1 hts;have hs1:SortedE (es0++[x]):=by
   have hpw:=(sorted_iff _).1 hso;refine(sorted_iff _).2 (hpw.sublist ?_);exact List.Sublist.append (List.Sublist.refl _) (List.Sublist.cons_cons _ (List.nil_sublist _))
  rw[← htr]at h4;obtain⟨s',e5,h5⟩:=Rd.exact hn es (es0++[x]) s2 f r h4 (fun y hy=>hin y (by simp[hy])) (by rw[List.append_assoc];exact hso) (by simpa using hf);refine⟨s',?_,h5⟩;have el:lnE ⟨x.a,x.b,x.m,pl⟩=x:=rfl;rw[exactG_step hstop f _ _ e2,if_neg (by rw[h4.e];simp),if_neg (bad_none (by rw[el];exact hs1) hx.2),el,e5,List.append_assoc];rfl
theorem sorted_adj {es:List E}(h:∀k,k+1<es.length→ltE (es[k]?.getD default) (es[k+1]?.getD default).a (es[k+1]?.getD default).b=true):SortedE es:=by
 have key:∀d j,j+d+1<es.length→ltE (es[j]?.getD default) (es[j+d+1]?.getD default).a (es[j+d+1]?.getD default).b=true:=by
  intro d;induction d with
  |zero=>intro j hj;exact h j hj
  |succ d ih=>
   intro j hj
   have h1:=ih j (by omega)
   have h2:=h (j+d+1) (by omega)
   exact ltE_trans (x:=es[j]?.getD default) (y:=es[j+d+1]?.getD default) h1 h2
 intro j k hjk hk;have:=key (k-j-1) j (by omega);rw[show j+(k-j-1)+1=k by omega]at this;exact this
theorem ltE_of {x y:E}(h:¬(y.a<x.a∨y.a=x.a∧y.b≤x.b)):ltE x y.a y.b=true:=by
 unfold ltE;simp;omega
theorem gok_sorted {g:G}(h:Gok g):SortedE g.es:=sorted_adj fun k hk=>by
 have he:=h.edge (k+1) hk;unfold edgeErr at he;rw[Nat.add_sub_cancel]at he;refine ltE_of fun hb=> ?_;split at he
 ·omega
 ·split at he
  ·omega
  ·rw[if_pos ⟨by omega,hb⟩]at he;omega
theorem gok_in {g:G}(h:Gok g):∀x∈g.es,InE g.n x∧x.a≤x.b:=fun x hx=>by
 obtain⟨h1,h2,h3,h4,h5⟩:=h.mem hx;exact⟨⟨h1,by omega,by omega,h3,h4,h5⟩,h2⟩
theorem limR_ok {t:List UInt8}(h:(limR t).1=0):t.length≤4096∧(limR t).2=t:=by
 unfold limR at h⊢;by_cases h1:4096<t.length
 ·rw[if_pos h1]at h;exact absurd h (by decide)
 ·rw[if_neg h1];exact⟨by omega,rfl⟩
theorem graph_text {g:G}(h:(graphR g).1=0):Gok g∧(graphR g).2=wGraph++32::tabT 45 g∧(wGraph++32::tabT 45 g).length≤4096:=by
 unfold graphR at h⊢;by_cases hc:checkErr g≠0
 ·rw[if_pos hc]at h;exact absurd h hc
 ·rw[if_neg hc]at h⊢
  obtain⟨h1,h2⟩:=limR_ok h;exact⟨show checkErr g=0 by omega,h2,h1⟩
theorem graph_back {g:G}(h:(graphR g).1=0):tableP wGraph 45 true (opened (scanR (graphR g).2))=(g,0,0)∧∃t,normR (graphR g).2=(t,0,0)∧tableP wGraph 45 true (opened (scanR t))=(g,0,0):=by
 obtain⟨hk,h2,h1⟩:=graph_text h;have hin:=gok_in hk;have hok:=tabGl_ok (word:=wGraph) (sign:=45) (g:=g) (by decide) (by decide) hk.n (fun x hx=>(hin x hx).1);have hse:=tabGl_sepd wGraph 45 g;have back:∀t,ScT t (tabT' wGraph 45 g)→tableP wGraph 45 true (opened (scanR t))=(g,0,0):=fun t ht=>Rd.tableP ht.rd hk.n (fun _ x hx=>(hin x hx).2) (fun x hx=>(hin x hx).1) (gok_sorted hk);rw[h2,←tabGl_text]at*
 refine⟨back _ ?_,?_⟩
 ·rw[← tabGl_tok]
  exact scan_of_glue _ hok hse h1
 ·obtain⟨t,h3,h4⟩:=norm_glue _ hok hse h1
  rw[tabGl_tok]at h4;exact⟨t,h3,back t h4⟩
end Go.Proofs.YtclgllmipcbagaaGreatDoor
