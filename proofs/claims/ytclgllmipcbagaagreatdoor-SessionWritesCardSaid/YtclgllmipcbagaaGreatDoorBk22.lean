/-
  Parts of the proof: XTb XTf XU6 XU7 XU1 XU2 XU3
-/
import Derived.Test.YtclgllmipcbagaaGreatDoorBk21
import Derived.Test.YtclgllmipcbagaaGreatDoorBk11
import Derived.Test.YtclgllmipcbagaaGreatDoorBk17
import Derived.Test.YtclgllmipcbagaaGreatDoorBk14
import Derived.Test.YtclgllmipcbagaaGreatDoorBk06
import Derived.Test.YtclgllmipcbagaaGreatDoorBk12
namespace Go.Proofs.YtclgllmipcbagaaGreatDoor
open Go.RowKit
set_option linter.unusedVariables false
set_option linter.unusedSimpArgs false
set_option maxRecDepth 100000
set_option maxHeartbeats 16000000
def allG (D:Ses→Cmd→Int×Ses):Nat→Ses→List Cmd→Ses×Int×Int
 |_,s,[]=>(s,0,0)
 |k,s,c::r=>if (D s c).1≠0 then(ses0,(k:Int),(D s c).1)else allG D (k+1) (D s c).2 r
def RetAll (r:Ses×Int×Int)(w:World)(e:Ending)(w':World):Prop:=∃oa oc pa pc fa fc,e= .returned (.tuple #[.agg #[.slice oa r.1.obs.length oc,.slice pa r.1.past.length pc,.slice fa r.1.fut.length fc],.int .i64 r.2.1,.int .i64 r.2.2])∧
 SesR w' (.agg #[.slice oa r.1.obs.length oc,.slice pa r.1.past.length pc,.slice fa r.1.fut.length fc]) r.1∧(∀ g,(Value.slice pa r.1.past.length pc).ownBlock=some g→w.heap.size≤g)∧(∀ g,(Value.slice fa r.1.fut.length fc).ownBlock=some g→w.heap.size≤g)∧Below w.heap.size w w'
theorem s_All (l:List Cmd)(lv:Value)(D:Ses→Cmd→Int×Ses)(I:Nat→Ses→Prop)(w:World)(hl:CmsR w lv l)(hln:l.length≤4096)(h0:I 0 ses0)(hI:∀k s,k<l.length→I k s→(D s (l[k]?.getD default)).1=0→I (k+1) (D s (l[k]?.getD default)).2)
 (hD:∀(W:World) (sv cv:Value) (k:Nat) (s:Ses),k<l.length→Below w.heap.size w W→SesR W sv s→CmdR W cv (l[k]?.getD default)→I k s→Calls Tryz.prog 16 #[sv,cv] W (RetDo (D s (l[k]?.getD default)) W)):
 Calls Tryz.prog 51 #[lv] w (RetAll (allG D 0 ses0 l) w):=by
 obtain⟨a,cap,rfl,hcap,hcm,hlen⟩:=hl.form;have HL:=hid hl;have HD:=hid hD;have HI:=hid hI;have H0:=hid h0;obtain⟨Z,HZ⟩:∃Z,Hid (Z=allG D 0 ses0 l):=⟨_,rfl⟩;rw[← HZ.out];have hlI:¬(4096:Int)<(l.length:Int):=by omega
 clear hl hD hI h0;have HB0:Hid (Below w.heap.size w ((w.alloc (.cells #[.slice none 0 0,.slice none 0 0,.slice none 0 0] 25)).alloc (.cells #[.slice none 0 0,.slice none 0 0,.slice none 0 0] 25))):=by show Below _ _ _;go_grown
 have HR0:=hid ((Blk.new w #[.slice none 0 0,.slice none 0 0,.slice none 0 0] 25).alloc (.cells #[.slice none 0 0,.slice none 0 0,.slice none 0 0] 25));have hS0:=Blk.new (w.alloc (.cells #[.slice none 0 0,.slice none 0 0,.slice none 0 0] 25)) #[.slice none 0 0,.slice none 0 0,.slice none 0 0] 25;rw[World.size_alloc]at hS0;have HS0:=hid hS0;clear hS0;go_enter Tryz.func51,Tryz.ntmps51;go_wp2_with fail;generalize (w.alloc (.cells #[.slice none 0 0,.slice none 0 0,.slice none 0 0] 25)).alloc (.cells #[.slice none 0 0,.slice none 0 0,.slice none 0 0] 25)=W0 at*
 go_loopw [16] (fun i wr=>∃(k:Nat) (s:Ses) (oa pa fa:Option Addr) (oc pc fc:Nat),k≤l.length∧i= .int .i64 k∧Hid (I k s)∧Hid (Z=allG D k s (l.drop k))∧
  Hid (Blk wr (w.heap.size+1) #[.slice oa s.obs.length oc,.slice pa s.past.length pc,.slice fa s.fut.length fc] 25)∧Hid (Blk wr w.heap.size #[.slice none 0 0,.slice none 0 0,.slice none 0 0] 25)∧
  Hid (SesR wr (.agg #[.slice oa s.obs.length oc,.slice pa s.past.length pc,.slice fa s.fut.length fc]) s)∧Hid ((∀ g,(Value.slice pa s.past.length pc).ownBlock=some g→w.heap.size+2≤g)∧(∀ g,(Value.slice fa s.fut.length fc).ownBlock=some g→w.heap.size+2≤g))∧Hid (Below w.heap.size w wr)) (fun i _=>l.length-(intOf i).toNat)
 case atStart=>exact⟨0,ses0,none,none,none,0,0,0,Nat.zero_le _,rfl,H0,HZ,HS0,HR0,SesR.zero _,⟨(fun g k=>by cases k),(fun g k=>by cases k)⟩,HB0⟩
 case round=>
  clear HS0 HR0 HZ HB0 H0;obtain⟨k,s,oa,pa,fa,oc,pc,fc,hk,rfl,HIS,HZ,HS,HR,HSR,HFR,HB⟩:=hrel;by_cases hlt:k<l.length
  ·have hlt':(k:Int)<(l.length:Int):=by omega
   have hk0:(0:Int)≤(k:Int):=by omega
   have hz:=HZ.out;rw[List.drop_eq_getElem_cons hlt]at hz;have hge:l[k]=l[k]?.getD default:=by rw[List.getElem?_eq_getElem hlt];rfl
   rw[hge]at hz;have HDK:=hid (fun (W:World) (sv cv:Value) (hB:Below w.heap.size w W) (h1:SesR W sv s) (h2:CmdR W cv (l[k]?.getD default))=>HD.out W sv cv k s hlt hB h1 h2 HIS.out);have HIK:=hid (HI.out k s hlt HIS.out);have HZ2:Hid (Z=if (D s (l[k]?.getD default)).1≠0 then(ses0,(k:Int),(D s (l[k]?.getD default)).1)else allG D (k+1) (D s (l[k]?.getD default)).2 (l.drop (k+1))):=hz;obtain⟨b,off,ea,ec,va,vc,rfl,hbw,hb,c0,c1,c2,c3,c4,c5,c6,c7,he,hv⟩:=HL.out.atB HB.out k hlt;have HE:=hid he;have HV:=hid hv;clear HZ hz hge he hv;generalize l[k]?.getD default=c at*
   go_upto_region 7 with fail;have HXC:=hid (Blk.new wr #[.int .i64 c.kind,.string (str c.name),.string (str c.on),.string (str c.other),.int .i64 c.q,.int .i64 c.g.n,.slice ea c.g.es.length ec,.slice va c.vals.length vc] 31);have hB1:Below wr.heap.size wr (wr.alloc (.cells #[.int .i64 c.kind,.string (str c.name),.string (str c.on),.string (str c.other),.int .i64 c.q,.int .i64 c.g.n,.slice ea c.g.es.length ec,.slice va c.vals.length vc] 31)):=by go_grown
   have HB1:=hid (up HB.out hB1);have HS1:=hid (HS.out.below hB1);have HR1:=hid (HR.out.below hB1);have HSR1:=hid (HSR.out.below hB1);generalize wr.alloc (.cells #[.int .i64 c.kind,.string (str c.name),.string (str c.on),.string (str c.other),.int .i64 c.q,.int .i64 c.g.n,.slice ea c.g.es.length ec,.slice va c.vals.length vc] 31)=W1 at*
   generalize wr.heap.size=X at*
   clear hB1 HS HR HSR HFR HB hb c0 c1 c2 c3 c4 c5 c6 c7;have lx:=HXC.out.lt;have x0:=HXC.out.cell 0;have x1:=HXC.out.cell 1;have x2:=HXC.out.cell 2;have x3:=HXC.out.cell 3;have x4:=HXC.out.cell 4;have x5:=HXC.out.cell 5;have x6:=HXC.out.cell 6;have x7:=HXC.out.cell 7;have ls:=HS1.out.lt;have s0:=HS1.out.cell 0;have s1:=HS1.out.cell 1;have s2:=HS1.out.cell 2;simp only[xG,xH,xI]at x0 x1 x2 x3 x4 x5 x6 x7 s0 s1 s2;go_wp2_with fail;refine(HDK.out _ _ _ HB1.out HSR1.out ⟨_,_,rfl,HE.out.below HB1.out,HV.out.below HB1.out⟩).mono ?_;rintro e w2 ⟨na,nc,pa2,pc2,fa2,fc2,rfl,hS2,hp2,hf2,hB2⟩;have HB2:=hid (up HB1.out hB2)
   have HS2:=hid (HS1.out.below hB2);have HR2:=hid (HR1.out.below hB2);have HSR2:=hid hS2;have hs1:=HB1.out.size;have HFR2:Hid ((∀ g,(Value.slice pa2 (D s c).2.past.length pc2).ownBlock=some g→w.heap.size+2≤g)∧(∀ g,(Value.slice fa2 (D s c).2.fut.length fc2).ownBlock=some g→w.heap.size+2≤g)):=⟨fun g e=>by have:=hp2 g e;omega,fun g e=>by have:=hf2 g e;omega⟩;clear hS2 hp2 hf2 hB2 HS1 HR1 HSR1 HXC HDK lx x0 x1 x2 x3 x4 x5 x6 x7 ls s0 s1 s2 HE HV hs1;generalize D s c=r at*
   dsimp only;go_upto_region 8 with fail;have HN:=hid (Blk.new w2 #[.slice na r.2.obs.length nc,.slice pa2 r.2.past.length pc2,.slice fa2 r.2.fut.length fc2] 25);have hB3:Below w2.heap.size w2 (w2.alloc (.cells #[.slice na r.2.obs.length nc,.slice pa2 r.2.past.length pc2,.slice fa2 r.2.fut.length fc2] 25)):=by go_grown
   have HB3:=hid (up HB2.out hB3);have HS3:=hid (HS2.out.below hB3);have HR3:=hid (HR2.out.below hB3);have HSR3:=hid (HSR2.out.below hB3);generalize w2.alloc (.cells #[.slice na r.2.obs.length nc,.slice pa2 r.2.past.length pc2,.slice fa2 r.2.fut.length fc2] 25)=W3 at*
   generalize w2.heap.size=Y at*
   clear hB3 HS2 HR2 HSR2 HB2;by_cases h0:r.1=0
   ·have hz:=HZ2.out
    rw[if_neg (by simp[h0])]at hz;have HZ3:=hid hz;have HIN:=hid (HIK.out h0);have lx:=HN.out.lt;have x0:=HN.out.cell 0;have x1:=HN.out.cell 1;have x2:=HN.out.cell 2;have ls:=HS3.out.lt;have f0:=HS3.out.frozen 0;have f1:=HS3.out.frozen 1;have f2:=HS3.out.frozen 2;have s0:=HS3.out.cell 0;have s1:=HS3.out.cell 1;have s2:=HS3.out.cell 2;simp only[xG,xH,xI]at x0 x1 x2 s0 s1 s2;clear hz HZ2 HIK;generalize r.2=q at*
    generalize r.1=e1 at*
    subst h0;go_wp2_with fail;go_roundw
    case rel=>
     refine⟨k+1,q,na,pa2,fa2,nc,pc2,fc2,by omega,by go_num,HIN,HZ3,blk3 HS3.out _ _ _,((HR3.out.other (by omega) 0 _).other (by omega) 1 _).other (by omega) 2 _,?_,HFR2,below3 HB3.out (by omega) _ _ _⟩;exact HSR3.out.put3 (Slc.blk HS3.out ⟨_,_,_,rfl⟩ ⟨_,_,_,rfl⟩ ⟨_,_,_,rfl⟩) (fun g e=>by have:=HFR2.out.1 g e;omega) (fun g e=>by have:=HFR2.out.2 g e;omega) _ _ _
    case measure=>simp[intOf];omega
   ·have hz:=HZ2.out
    rw[if_pos h0]at hz;have HZ3:=hid hz;have lr:=HR3.out.lt;have f0:=HR3.out.frozen 0;have f1:=HR3.out.frozen 1;have f2:=HR3.out.frozen 2;have s0:=HR3.out.cell 0;have s1:=HR3.out.cell 1;have s2:=HR3.out.cell 2;simp only[xG,xH,xI]at s0 s1 s2;have hb:(r.1 !=0)=true:=by simpa using h0
    clear hz HZ2 HIK h0;generalize r.1=e1 at*
    go_wp2_with fail;refine bodyPost_ret (results_cell3 rfl rfl (load_ses (blk3 HR3.out _ _ _))) rfl ⟨none,0,none,0,none,0,(by rw[HZ3.out];rfl),(by rw[HZ3.out];exact SesR.zero _),(fun g k=>by cases k),(fun g k=>by cases k),below3 HB3.out (by omega) _ _ _⟩
  ·obtain rfl:k=l.length:=by omega
   have hlt':¬(l.length:Int)<(l.length:Int):=by omega
   have hz:=HZ.out;rw[List.drop_length]at hz;have HZ2:Hid (Z=(s,0,0)):=hz;have ls:=HS.out.lt;have s0:=HS.out.cell 0;have s1:=HS.out.cell 1;have s2:=HS.out.cell 2;have lr:=HR.out.lt;have f0:=HR.out.frozen 0;have f1:=HR.out.frozen 1;have f2:=HR.out.frozen 2;have r0:=HR.out.cell 0;have r1:=HR.out.cell 1;have r2:=HR.out.cell 2;simp only[xG,xH,xI]at s0 s1 s2 r0 r1 r2;clear hz HZ;go_wp2_with fail;refine bodyPost_ret (results_cell3 rfl rfl (load_ses (blk3 HR.out _ _ _))) rfl ⟨oa,oc,pa,pc,fa,fc,(by rw[HZ2.out];rfl),?_,(fun g e=>by have:=HFR.out.1 g (by rw[HZ2.out]at e;exact e);omega),(fun g e=>by have:=HFR.out.2 g (by rw[HZ2.out]at e;exact e);omega),below3 HB.out (by omega) _ _ _⟩
   rw[HZ2.out];exact HSR.out.put3 (Slc.blk HR.out ⟨_,_,_,rfl⟩ ⟨_,_,_,rfl⟩ ⟨_,_,_,rfl⟩) (fun g e=>by have:=HFR.out.1 g e;omega) (fun g e=>by have:=HFR.out.2 g e;omega) _ _ _
theorem IntsR.atS {w:World}{v:Value}{l:List Int}(h:IntsR w v l):∃a cap,v= .slice a l.length cap∧l.length≤cap∧cap≤9223372036854775807∧∀k,k<l.length→∃b off,a=some ⟨b,off,none⟩∧b<w.heap.size∧w.cell? ⟨b,off+k,none⟩=some (.int .i64 (l[k]?.getD 0)):=by
 obtain⟨a,cap,e,h1,h2,_,hc⟩:=h;refine⟨a,cap,e,h1,h2,fun k hk=> ?_⟩;obtain⟨b,off,e2,hb,hc⟩:=hc.int (by omega);exact⟨b,off,e2,hb,hc k hk⟩
theorem q_SameI (l:List Int)(av bv:Value)(w:World)(ha:IntsR w av l)(hb:IntsR w bv l):
 Calls Tryz.prog 73 #[av,bv] w fun e w'=>e= .returned (.bool true)∧Below w.heap.size w w':=by
 obtain⟨a,cap,rfl,h1,h2,hc⟩:=ha.atS;obtain⟨a',cap',rfl,h1',h2',hd⟩:=hb.atS;have HC:=hid hc;have HD:=hid hd;have q2:((l.length:Int)!=(l.length:Int))=false:=by simp
 clear hc hd ha hb;go_enter Tryz.func73,Tryz.ntmps73;go_wp2_with fail;go_loopw [5] (fun i wr=>∃k:Nat,k≤l.length∧i= .int .i64 k∧Hid (Below w.heap.size w wr)) (fun i _=>l.length-(intOf i).toNat);case atStart=>exact⟨0,Nat.zero_le _,rfl,Below.refl _ _⟩
 case round=>
  obtain⟨k,hkn,rfl,HBr⟩:=hrel;by_cases hlt:k<l.length
  ·have hlt':(k:Int)<(l.length:Int):=by omega
   have hk0:(0:Int)≤(k:Int):=by omega
   obtain⟨b,off,rfl,hb,c0⟩:=HC.out k hlt;obtain⟨b',off',rfl,hb',d0⟩:=HD.out k hlt;have c0:=(HBr.out.cell (p:=⟨b,off+k,none⟩) hb).trans c0;have d0:=(HBr.out.cell (p:=⟨b',off'+k,none⟩) hb').trans d0;generalize l[k]?.getD 0=x at*
   have p1:(x !=x)=false:=by simp
   go_wp2_with fail;go_quiet (fail);go_wp2_with fail;exact⟨⟨k+1,by omega,by go_num,below_dN HBr.out _⟩,by simp[intOf];omega⟩
  ·obtain rfl:k=l.length:=by omega
   have hlt':¬(l.length:Int)<(l.length:Int):=by omega
   go_wp2_with fail;go_ret;exact⟨rfl,HBr.out⟩
theorem q_SameCmd (c:Cmd)(av bv:Value)(w:World)(ha:CmdR w av c)(hb:CmdR w bv c):
 Calls Tryz.prog 25 #[av,bv] w fun e w'=>e= .returned (.bool true)∧Below w.heap.size w w':=by
 obtain⟨ev,vv,rfl,he,hv⟩:=ha;obtain⟨ev',vv',rfl,he',hv'⟩:=hb;obtain⟨ea,ec,rfl,_⟩:=id he;obtain⟨va,vc,rfl,_⟩:=id hv;obtain⟨ea',ec',rfl,_⟩:=id he';obtain⟨va',vc',rfl,_⟩:=id hv';have HE:=hid (fun (W:World) (h:Below w.heap.size w W)=>q_SameG c.g c.g _ _ W ⟨_,rfl,he.below h⟩ ⟨_,rfl,he'.below h⟩);have HV:=hid (fun (W:World) (h:Below w.heap.size w W)=>q_SameI c.vals _ _ W (hv.below h) (hv'.below h));have hB:Below w.heap.size w ((w.alloc (.cells #[.int .i64 c.kind,.string (str c.name),.string (str c.on),.string (str c.other),.int .i64 c.q,.int .i64 c.g.n,.slice ea c.g.es.length ec,.slice va c.vals.length vc] 39)).alloc (.cells #[.int .i64 c.kind,.string (str c.name),.string (str c.on),.string (str c.other),.int .i64 c.q,.int .i64 c.g.n,.slice ea' c.g.es.length ec',.slice va' c.vals.length vc'] 39)):=by go_grown
 have HX:=hid ((Blk.new w #[.int .i64 c.kind,.string (str c.name),.string (str c.on),.string (str c.other),.int .i64 c.q,.int .i64 c.g.n,.slice ea c.g.es.length ec,.slice va c.vals.length vc] 39).alloc (.cells #[.int .i64 c.kind,.string (str c.name),.string (str c.on),.string (str c.other),.int .i64 c.q,.int .i64 c.g.n,.slice ea' c.g.es.length ec',.slice va' c.vals.length vc'] 39));have hY:=Blk.new (w.alloc (.cells #[.int .i64 c.kind,.string (str c.name),.string (str c.on),.string (str c.other),.int .i64 c.q,.int .i64 c.g.n,.slice ea c.g.es.length ec,.slice va c.vals.length vc] 39)) #[.int .i64 c.kind,.string (str c.name),.string (str c.on),.string (str c.other),.int .i64 c.q,.int .i64 c.g.n,.slice ea' c.g.es.length ec',.slice va' c.vals.length vc'] 39
 rw[World.size_alloc]at hY;have HY:=hid hY;have HB:=hid hB;clear hB hY he hv he' hv';have e1:((str c.name).toList==(str c.name).toList)=true:=by simp
 have e2:((str c.on).toList==(str c.on).toList)=true:=by simp
 have e3:((str c.other).toList==(str c.other).toList)=true:=by simp
 have e0:(c.kind==c.kind)=true:=by simp
 have e4:(c.q==c.q)=true:=by simp
 go_enter Tryz.func25,Tryz.ntmps25;go_upto_region 1 with fail;generalize (w.alloc (.cells #[.int .i64 c.kind,.string (str c.name),.string (str c.on),.string (str c.other),.int .i64 c.q,.int .i64 c.g.n,.slice ea c.g.es.length ec,.slice va c.vals.length vc] 39)).alloc (.cells #[.int .i64 c.kind,.string (str c.name),.string (str c.on),.string (str c.other),.int .i64 c.q,.int .i64 c.g.n,.slice ea' c.g.es.length ec',.slice va' c.vals.length vc'] 39)=W0 at*
 have lx:=HX.out.lt;have ly:=HY.out.lt;have x0:=HX.out.cell 0;have x1:=HX.out.cell 1;have x2:=HX.out.cell 2;have x3:=HX.out.cell 3;have x4:=HX.out.cell 4;have x5:=HX.out.cell 5;have x6:=HX.out.cell 6;have y0:=HY.out.cell 0;have y1:=HY.out.cell 1;have y2:=HY.out.cell 2;have y3:=HY.out.cell 3;have y4:=HY.out.cell 4;have y5:=HY.out.cell 5;have y6:=HY.out.cell 6;simp only[xG,xH,xI]at x0 x1 x2 x3 x4 x5 x6 y0 y1 y2 y3 y4 y5 y6;go_wp2_with fail;refine(HE.out W0 HB.out).mono ?_;rintro e w1 ⟨b,rfl,hb,hB1⟩;obtain rfl:b=true:=by simpa using hb
 have HB1:=hid (up HB.out hB1);have HX1:=hid (HX.out.below hB1);have HY1:=hid (HY.out.below hB1);clear x0 x1 x2 x3 x4 x5 x6 y0 y1 y2 y3 y4 y5 y6 lx ly hB1 HE;have lx:=HX1.out.lt;have ly:=HY1.out.lt;have x7:=HX1.out.cell 7;have y7:=HY1.out.cell 7;simp only[xG,xH,xI]at x7 y7;dsimp only;go_wp2_with fail;refine(HV.out w1 HB1.out).mono ?_;rintro e w2 ⟨rfl,hB2⟩;dsimp only;go_wp2_with fail;go_ret;exact⟨rfl,up HB1.out hB2⟩
def stab2 (g:G)(q:Int)(d:List Int):Int×List Int:=match stabR g q d with
 | .inl k=>(k,[])
 | .inr s=>(0,vecOf g.n.toNat s.L)
def nextP (s:Ses)(c:Cmd):Int×Ses:=if c.kind=0 then letP s c else if c.kind=1 then putP s c else if c.kind=3 then changeP s c (fun g d=>stab2 g c.q d)else if c.kind=7 then undoP s else redoP s
def doG (s:Ses)(c:Cmd):Int×Ses:=doP s c (nextP s c)
def triG:G:=⟨3,[⟨0,1,1⟩,⟨0,2,1⟩,⟨1,2,1⟩]⟩
def exLet:Cmd:=⟨0,[97],[],[],0,triG,[]⟩
def exPut:Cmd:=⟨1,[100],[97],[],0,⟨0,[]⟩,[2,0,0]⟩
def exStab:Cmd:=⟨3,[100],[],[],1,⟨0,[]⟩,[]⟩
def exUndo:Cmd:=⟨7,[],[],[],0,⟨0,[]⟩,[]⟩
def exO1:List Ob:=[⟨[97],[],triG,[]⟩]
def exO2:List Ob:=[⟨[97],[],triG,[]⟩,⟨[100],[97],⟨0,[]⟩,[2,0,0]⟩]
def exO3:List Ob:=[⟨[97],[],triG,[]⟩,⟨[100],[97],⟨0,[]⟩,[0,1,1]⟩]
def exS1:Ses:=⟨exO1,[[]],[]⟩
def exS2:Ses:=⟨exO2,[[],exO1],[]⟩
def exS3:Ses:=⟨exO3,[[],exO1,exO2],[]⟩
def exS4:Ses:=⟨exO2,[[],exO1],[exO3]⟩
theorem ex_let:doG ses0 exLet=(0,exS1):=by kernel_rfl
theorem ex_put:doG exS1 exPut=(0,exS2):=by kernel_rfl
theorem ex_stab:doG exS2 exStab=(0,exS3):=by kernel_rfl
theorem ex_undo:doG exS3 exUndo=(0,exS4):=by kernel_rfl
theorem ex_sum0:sumB []=7:=by decide
theorem ex_sum1:sumB [97]=1014:=by decide
theorem ex_sum2:sumB [117,110,100,111]=38389:=by decide
theorem owns_intsV {w:World}{base:Nat}{v:Value}{N:Nat}{L:Nat→Int}(h:w.ownsRow base 3 1 v N ((vecOf N L).map (Value.int .i64)))(hN:N≤12):IntsR w v (vecOf N L):=by
 have hl:(vecOf N L).length=N:=vecOf_len _ _;have h':w.ownsRow base 3 1 v (vecOf N L).length ((vecOf N L).map (Value.int .i64)):=by rw[hl];exact h
 exact owns_ints h' (by rw[hl];omega)
theorem stab_ok {g:G}{q:Int}{d:List Int}{s:St}(h:stabR g q d= .inr s):g.n.toNat≤12:=by
 unfold stabR at h;by_cases hc:cfgErr g q d=0
 ·have:=(cfg_ok hc).1.n
  omega
 ·rw[if_pos hc]at h;cases h
theorem stab_err {g:G}{q:Int}{d:List Int}{k:Int}(h:stabR g q d= .inl k):k≠0:=by
 unfold stabR at h;by_cases hc:cfgErr g q d=0
 ·rw[if_neg (by simp[hc])]at h
  split at h
  ·injection h with h;omega
  ·split at h
   ·injection h with h;omega
   ·cases h
 ·rw[if_pos hc]at h
  injection h with h
  rw[← h];exact hc
theorem c_Stab (g:G)(gv:Value)(q:Int)(d:List Int)(dv:Value)(w:World)(hg:GrR w gv g)(hd:IntsR w dv d):
 Calls Tryz.prog 145 #[gv,.int .i64 q,dv] w (RetThree (stab2 g q d) w):=by
 refine(p_Stabilize g gv q d dv w hg hd).mono ?_;rintro e w' ⟨hB,hr⟩;unfold stab2;cases hs:stabR g q d with
 |inl k=>
  rw[hs]at hr
  dsimp only at hr
  exact⟨_,_,hr,fun h0=>absurd h0 (stab_err hs),hB⟩
 |inr s=>
  rw[hs]at hr
  obtain⟨b1,c1,b2,c2,rfl,h1,h2⟩:=hr
  exact⟨_,_,rfl,fun _=>owns_intsV h1 (stab_ok hs),hB⟩
theorem obs_len {l:List Ob}(h:obsErr l=0):l.length≤32:=by
 unfold obsErr at h;split at h
 ·omega
 ·omega
theorem ls_len {l:List (List Ob)}(h:lsErr l=0):l.length≤64:=by
 unfold lsErr at h;split at h
 ·omega
 ·omega
theorem ses_ok {s:Ses}(h:sesErr s=0):obsErr s.obs=0∧lsErr s.past=0∧lsErr s.fut=0:=by
 unfold sesErr at h;split at h
 ·rename_i h1;exact absurd h h1
 ·rename_i h1
  split at h
  ·rename_i h2;exact absurd h h2
  ·rename_i h2
   exact⟨Classical.byContradiction h1,Classical.byContradiction h2,h⟩
theorem ent_let (args:Array Value)(w:World):(callFunc 93 args).run Tryz.prog w= .ok (.enter 93 args) w:=by go_simp
theorem ent_put (args:Array Value)(w:World):(callFunc 94 args).run Tryz.prog w= .ok (.enter 94 args) w:=by go_simp
theorem ent_change (args:Array Value)(w:World):(callFunc 95 args).run Tryz.prog w= .ok (.enter 95 args) w:=by go_simp
theorem ent_undo (args:Array Value)(w:World):(callFunc 98 args).run Tryz.prog w= .ok (.enter 98 args) w:=by go_simp
theorem s_DoG (s:Ses)(c:Cmd)(sv cv:Value)(w:World)(hs:SesR w sv s)(hc:CmdR w cv c)(hms:SmSes s)(hmc:SmCmd c)(hk:c.kind=0∨c.kind=1∨c.kind=3∨c.kind=7):
 Calls Tryz.prog 16 #[sv,cv] w (RetDo (doG s c) w):=by
 unfold doG nextP;rcases hk with hk|hk|hk|hk
 ·rw[if_pos hk]
  refine s_Do s c sv cv _ _ w hs hc hms hmc (by rw[hk];rfl) ent_let fun b W hE hse hre=> ?_;obtain⟨h1,h2,h3⟩:=ses_ok hse;exact s_let s c b W hE (obs_sorted h1) (obs_len h1) (ls_len h2)
 ·rw[if_neg (by omega),if_pos hk]
  refine s_Do s c sv cv _ _ w hs hc hms hmc (by rw[hk];rfl) ent_put fun b W hE hse hre=> ?_;obtain⟨h1,h2,h3⟩:=ses_ok hse;exact s_put s c b W hE (obs_sorted h1) (obs_len h1) (ls_len h2)
 ·rw[if_neg (by omega),if_neg (by omega),if_pos hk]
  refine s_Do s c sv cv _ _ w hs hc hms hmc (by rw[hk];rfl) ent_change fun b W hE hse hre=> ?_;obtain⟨h1,h2,h3⟩:=ses_ok hse;exact s_change s c b _ W hE (obs_sorted h1) (obs_len h1) (ls_len h2) (fun h=>by omega) (fun _ W g gv dv d hg hd=>c_Stab g gv c.q d dv W hg hd) (fun _ h=>by omega)
 ·rw[if_neg (by omega),if_neg (by omega),if_neg (by omega),if_pos hk]
  refine s_Do s c sv cv _ _ w hs hc hms hmc (by rw[hk];rfl) ent_undo fun b W hE hse hre=> ?_;obtain⟨h1,h2,h3⟩:=ses_ok hse;exact s_undo s c b W hE (ls_len h3)
theorem l_Tri (w:World):Calls Tryz.prog 50 #[] w fun e w'=>∃a,e= .returned (.agg #[.int .i64 3,.slice a 3 3])∧EdgesR w' (.slice a 3 3) triG.es∧Below w.heap.size w w':=by
 go_enter Tryz.func50,Tryz.ntmps50;go_wp2_with fail;have hG:=(Blk.new w #[.int .i64 3,.slice (some ⟨w.heap.size+1,0,none⟩) 3 3] 28).alloc (.cells #[.int .i64 0,.int .i64 1,.int .i64 1,.int .i64 0,.int .i64 2,.int .i64 1,.int .i64 1,.int .i64 2,.int .i64 1] 150);have hE:=Blk.new (w.alloc (.cells #[.int .i64 3,.slice (some ⟨w.heap.size+1,0,none⟩) 3 3] 28)) #[.int .i64 0,.int .i64 1,.int .i64 1,.int .i64 0,.int .i64 2,.int .i64 1,.int .i64 1,.int .i64 2,.int .i64 1] 150;rw[World.size_alloc]at hE;refine bodyPost_ret (results_cellA rfl rfl (load_gr rfl hG)) rfl ⟨_,rfl,⟨_,_,rfl,by decide,by decide,by decide,.inr ⟨_,0,rfl,hE.lt,fun i hi=> ?_⟩⟩,by go_grown⟩
 rw[Nat.zero_add,hE.cell i,List.getElem?_toArray];rfl
structure EnvS (w:World):Prop where
 env:Env w
 syn:∃ev,w.cell? ⟨2,0,none⟩=some ev∧(ev= .nilIface∨∃te pe,ev= .iface te pe)
 mx:∃m,w.cell? ⟨1,0,none⟩=some (.int .i64 m)
theorem EnvS.below {w w':World}(h:EnvS w)(hB:Below w.heap.size w w'):EnvS w':=by
 obtain⟨h1,⟨ev,h2,h3⟩,⟨m,h4⟩⟩:=h;exact⟨h1.below hB,⟨ev,(hB.cell (cell_lt h2)).trans h2,h3⟩,⟨m,(hB.cell (cell_lt h4)).trans h4⟩⟩
def RetAtoi (n:Int)(w:World)(e:Ending)(w':World):Prop:=∃ev,e= .returned (.tuple #[.int .i64 n,ev])∧Below w.heap.size w w'
theorem c_AtoiAny (l:List UInt8)(w:World)(hE:EnvS w)(hl:l.length≤281474976710656):Calls Tryz.prog 178 #[.string (str l)] w (RetAtoi (atoiV l) w):=by
 unfold atoiV;cases ha:Lib.atoiAll l with
 |ok n=>
  refine(Any.strconv_Atoi_ok nlayC172 (str l) (by rw[str_size];omega) n ha w).mono ?_
  rintro e w' ⟨rfl,hw⟩
  refine⟨_,rfl,?_⟩
  rcases hw with rfl|⟨t,rfl⟩
  ·exact Below.refl _ _
  ·exact bytes_below _ _ _
 |«syntax»=>
  obtain⟨ev,h1,h2⟩:=hE.syn
  refine(Any.strconv_Atoi_syntax nlayC172 (str l) (by rw[str_size];exact hl) ha ev w h1 h2).mono ?_
  rintro e w' ⟨N,rfl,_,_,hB⟩
  exact⟨_,rfl,hB⟩
 |range=>
  obtain⟨ev,h1,h2⟩:=hE.env.rng
  refine(Any.strconv_Atoi_range nlayC172 (str l) (by rw[str_size];exact hl) ha ev w h1 h2).mono ?_
  rintro e w' ⟨N,rfl,_,_,hB⟩
  exact⟨_,rfl,hB⟩
def StsR (w:World)(v:Value)(l:List (List UInt8)):Prop:=∃a cap,v= .slice a l.length cap∧l.length≤cap∧cap≤9223372036854775807∧CellsAt w a (l.map fun p=>Value.string (str p))
theorem StsR.below {w w':World}{v:Value}{l:List (List UInt8)}(h:StsR w v l)(hb:Below w.heap.size w w'):StsR w' v l:=by
 obtain⟨a,cap,h1,h2,h3,h4⟩:=h;exact⟨a,cap,h1,h2,h3,h4.below hb⟩
theorem StsR.at {w:World}{a:Option Addr}{n cap:Nat}{l:List (List UInt8)}(h:StsR w (.slice a n cap) l){k:Nat}(hk:k<l.length):∃b off,a=some ⟨b,off,none⟩∧b<w.heap.size∧w.cell? ⟨b,off+k,none⟩=some (.string (str (l[k]?.getD []))):=by
 obtain⟨a',cap',e,h1,h2,h3⟩:=h;injection e with e1 _ _
 subst e1;rcases h3 with h3|⟨b,off,e2,hb,hc⟩
 ·rw[List.map_eq_nil_iff]at h3;rw[h3]at hk;simp at hk
 ·refine⟨b,off,e2,hb,?_⟩
  rw[hc k (by simpa using hk),List.getElem?_map,List.getElem?_eq_getElem hk];rfl
def RetIntsN (l:List Int)(w:World)(e:Ending)(w':World):Prop:=∃a cap,e= .returned (.slice a l.length cap)∧IntsR w' (.slice a l.length cap) l∧(∀ g,(Value.slice a l.length cap).ownBlock=some g→w.heap.size≤g)∧Below w.heap.size w w'
theorem RetIntsN.of {l:List Int}{w w':World}{v:Value}(h:w'.ownsRow w.heap.size 3 1 v l.length (l.map (Value.int .i64)))(hl:l.length*8≤140737488355328)(hB:Below w.heap.size w w'):RetIntsN l w (.returned v) w':=by
 obtain⟨a,cap,rfl,h1,h2,h3⟩:=owns_at h;exact⟨a,cap,rfl,⟨a,cap,rfl,h1,h2,hl,h3⟩,fun g e=>(h.lt g e).1,hB⟩
theorem s_ints (l:List (List UInt8))(v:Value)(w:World)(hE:EnvS w)(hl:StsR w v l)(hn:l.length≤1000000)(hs:∀x∈l,x.length≤281474976710656):
 Calls Tryz.prog 116 #[v] w (RetIntsN (l.map atoiV) w):=by
 have HL:=hid hl;have HE:=hid hE;have HS:=hid hs;obtain⟨a,cap,rfl,hcap,hcm,_⟩:=hl;clear hE hs;go_enter Tryz.func116,Tryz.ntmps116;go_wp2_with fail
 go_loopw [10,3] (fun i t wr=>∃k:Nat,k≤l.length∧i= .int .i64 k∧Hid (wr.ownsRow w.heap.size 3 1 t ((l.take k).map atoiV).length (((l.take k).map atoiV).map (Value.int .i64)))∧Hid (Below w.heap.size w wr))
  (fun i _ _=>l.length-(intOf i).toNat)
 case atStart=>exact⟨0,Nat.zero_le _,rfl,World.ownsRow_nil _ _ _ _,Below.refl _ _⟩
 case round=>
  obtain⟨k,hk,rfl,HO,HB⟩:=hrel;by_cases hlt:k<l.length
  ·have hlt':(k:Int)<(l.length:Int):=by omega
   have hk0:(0:Int)≤(k:Int):=by omega
   obtain⟨b,off,rfl,hb,c0⟩:=(HL.out.below HB.out).at hlt;have HSX:Hid ((l[k]?.getD []).length≤281474976710656):=HS.out _ (by rw[List.getElem?_eq_getElem hlt];exact List.getElem_mem hlt);have HTK:Hid ((l.take (k+1)).map atoiV=(l.take k).map atoiV++[atoiV (l[k]?.getD [])]):=by
    show _=_;rw[List.take_succ_eq_append_getElem hlt,List.map_append,List.getElem?_eq_getElem hlt];rfl
   have hlk:((l.take k).map atoiV).length≤1000000:=by simp;omega
   generalize l[k]?.getD []=x at*
   have HAT:=hid (c_AtoiAny x wr (HE.out.below HB.out) HSX.out);generalize atoiV x=n at*
   go_wp2_with fail;refine HAT.out.mono ?_;rintro e w2 ⟨ev,rfl,hB2⟩;have HB2:=hid (up HB.out hB2);have HO2:Hid (w2.ownsRow w.heap.size 3 1 u3 ((l.take k).map atoiV).length (((l.take k).map atoiV).map (Value.int .i64))):=HO.out.kept (Below.toGrown hB2 none) (by cases u3.ownBlock<;>simp);clear hB2 c0 hb HAT HO HB;generalize (l.take k).map atoiV=xs at*
   have hs2:=HB2.out.size;have ho2:=HO2.out;dsimp only;go_wp2_with (at_builtin;refine wpList_app1 w2 rfl _ _ 29 rfl 3 und_ints info_int w.heap.size _ xs ho2 n w2.heap.size rfl rfl rfl (by omega) hs2 ?_;intro v' w3 hown3 hgr3 hbk;have HO3:=hid hown3;have HB3:=hid (below_grown HB2.out hs2 hgr3 hbk (Nat.le_refl _));clear hown3 hgr3 hbk);go_roundw;case rel=>exact⟨k+1,by omega,by go_num,by show World.ownsRow _ _ _ _ _ _ _;rw[HTK.out];exact HO3.out,HB3⟩
   case measure=>simp[intOf];omega
  ·obtain rfl:k=l.length:=by omega
   have hlt':¬(l.length:Int)<(l.length:Int):=by omega
   have ho:=HO.out;rw[List.take_length]at ho;have HO2:=hid ho;clear ho HO;go_wp2_with fail;go_ret;exact RetIntsN.of HO2.out (by rw[List.length_map];omega) HB.out
theorem kIx_none {x:List UInt8}(h:∀k:Nat,k<9→verbsW[k]?.getD []≠x):kIx x= -1:=by
 have e0:x≠wLet:=fun e=>h 0 (by decide) e.symm;have e1:x≠wPut:=fun e=>h 1 (by decide) e.symm;have e2:x≠wFire:=fun e=>h 2 (by decide) e.symm;have e3:x≠wStab:=fun e=>h 3 (by decide) e.symm;have e4:x≠wRed:=fun e=>h 4 (by decide) e.symm;have e5:x≠wAdd:=fun e=>h 5 (by decide) e.symm;have e6:x≠wDrop:=fun e=>h 6 (by decide) e.symm;have e7:x≠wUndo:=fun e=>h 7 (by decide) e.symm;have e8:x≠wRedo:=fun e=>h 8 (by decide) e.symm;unfold kIx;rw[if_neg e0,if_neg e1,if_neg e2,if_neg e3,if_neg e4,if_neg e5,if_neg e6,if_neg e7,if_neg e8]
theorem s_verb1 (x y:List UInt8)(b1 b2 b3 b4 b5:Bool)(f:Fn)(lb sb so n cap:Nat)(w:World)(h1:w.cell? ⟨lb,0,none⟩=some (.slice (some ⟨sb,so,none⟩) n cap))(hl:lb<w.heap.size)(h2:w.cell? ⟨sb,so,none⟩=some (.string (str y)))(hs:sb<w.heap.size)(hn:0<n):
 Calls Tryz.prog 113 #[.agg #[.string (str x),.bool b1,.bool b2,.bool b3,.bool b4,.bool b5,.func f #[] #[]],.pointer (some ⟨lb,0,none⟩)] w fun e w'=>e= .returned (.bool (x==y))∧Below w.heap.size w w':=by
 have he:=str_eqb x y;have hB:Below w.heap.size w (w.alloc (.cells #[.string (str x),.bool b1,.bool b2,.bool b3,.bool b4,.bool b5,.func f #[] #[]] 110)):=by go_grown
 have HB:=hid hB;have hn1:(0:Int)<(n:Int):=by omega
 have hn2:decide (0<n)=true:=by simpa using hn
 generalize (x==y)=z at*
 clear hB;go_enter Tryz.func113,Tryz.ntmps113;go_wp2_with fail;go_quiet (fail);go_wp2_with fail;go_ret;exact⟨rfl,below_dN HB.out _⟩
theorem verb_cells (k:Nat)(hk:k<9):∃b1 b2 b3 b4 b5 f,verbsC[k*7]? =some (.string (str (verbsW[k]?.getD [])))∧verbsC[k*7+1]? =some (.bool b1)∧verbsC[k*7+2]? =some (.bool b2)∧verbsC[k*7+3]? =some (.bool b3)∧verbsC[k*7+4]? =some (.bool b4)∧verbsC[k*7+5]? =some (.bool b5)∧verbsC[k*7+6]? =some (.func f #[] #[]):=
 match k,hk with
 |0,_=>⟨_,_,_,_,_,_,rfl,rfl,rfl,rfl,rfl,rfl,rfl⟩
 |1,_=>⟨_,_,_,_,_,_,rfl,rfl,rfl,rfl,rfl,rfl,rfl⟩
 |2,_=>⟨_,_,_,_,_,_,rfl,rfl,rfl,rfl,rfl,rfl,rfl⟩
 |3,_=>⟨_,_,_,_,_,_,rfl,rfl,rfl,rfl,rfl,rfl,rfl⟩
 |4,_=>⟨_,_,_,_,_,_,rfl,rfl,rfl,rfl,rfl,rfl,rfl⟩
 |5,_=>⟨_,_,_,_,_,_,rfl,rfl,rfl,rfl,rfl,rfl,rfl⟩
 |6,_=>⟨_,_,_,_,_,_,rfl,rfl,rfl,rfl,rfl,rfl,rfl⟩
 |7,_=>⟨_,_,_,_,_,_,rfl,rfl,rfl,rfl,rfl,rfl,rfl⟩
 |8,_=>⟨_,_,_,_,_,_,rfl,rfl,rfl,rfl,rfl,rfl,rfl⟩
theorem s_verbIx (y:List UInt8)(vb lb sb so n cap:Nat)(w:World)(hv:Blk w vb verbsC 111)(h1:w.cell? ⟨lb,0,none⟩=some (.slice (some ⟨sb,so,none⟩) n cap))(hl:lb<w.heap.size)(h2:w.cell? ⟨sb,so,none⟩=some (.string (str y)))(hs:sb<w.heap.size)(hn:0<n):
 Calls Tryz.prog 112 #[.slice (some ⟨vb,0,none⟩) 9 9,.func (.func 113) #[] #[.pointer (some ⟨lb,0,none⟩)]] w fun e w'=>e= .returned (.int .i64 (kIx y))∧Below w.heap.size w w':=by
 have HV:=hid hv;have H1:=hid h1;have H2:=hid h2;have HL:=hid hl;have HS:=hid hs;have hcl:∀(fn:Fn) (first cap:Array Value) (w:World),(Instr.makeFunc fn first cap).run Tryz.prog w= .ok (.func fn first cap) w:=fun _ _ _ _=>rfl;clear hv h1 h2 hl hs;go_enter Tryz.func112,Tryz.ntmps112;go_wp2_with fail;go_loopw [8] (fun i wr=>∃k:Nat,k≤9∧i= .int .i64 k∧Hid (∀ j,j<k→verbsW[j]?.getD []≠y)∧Hid (Below w.heap.size w wr)) (fun i _=>9-(intOf i).toNat);case atStart=>exact⟨0,Nat.zero_le _,rfl,fun j hj=>by omega,Below.refl _ _⟩
 case round=>
  obtain⟨k,hk,rfl,HP,HB⟩:=hrel;obtain⟨W,rfl⟩:∃W:World,W=wr:=⟨_,rfl⟩;by_cases hkl:k<9
  ·obtain⟨b1,b2,b3,b4,b5,f,d0,d1,d2,d3,d4,d5,d6⟩:=verb_cells k hkl
   have HVW:=hid (HV.out.below HB.out);have c0:=(HVW.out.cell (k*7)).trans d0;have c1:=(HVW.out.cell (k*7+1)).trans d1;have c2:=(HVW.out.cell (k*7+2)).trans d2;have c3:=(HVW.out.cell (k*7+3)).trans d3;have c4:=(HVW.out.cell (k*7+4)).trans d4;have c5:=(HVW.out.cell (k*7+5)).trans d5;have c6:=(HVW.out.cell (k*7+6)).trans d6;have hvl:=HVW.out.lt;have hk1:(k:Int)<9:=by omega
   have hk0:(0:Int)≤(k:Int):=by omega
   have HF:Hid (verbsW[k]?.getD []=y→kIx y=k):=fun h=>by rw[← h];exact kIx_verb k hkl
   have HST:Hid (verbsW[k]?.getD []≠y→∀j,j<k+1→verbsW[j]?.getD []≠y):=fun h j hj=>by
    by_cases e:j=k
    ·subst e;exact h
    ·exact HP.out j (by omega)
   have hcall:=hid (s_verb1 (verbsW[k]?.getD []) y b1 b2 b3 b4 b5 f lb sb so n cap W ((HB.out.cell (p:=⟨lb,0,none⟩) HL.out).trans H1.out) (Nat.lt_of_lt_of_le HL.out HB.out.size) ((HB.out.cell (p:=⟨sb,so,none⟩) HS.out).trans H2.out) (Nat.lt_of_lt_of_le HS.out HB.out.size) hn);clear d0 d1 d2 d3 d4 d5 d6;generalize verbsW[k]?.getD []=x at*
   by_cases hx:x=y
   ·have hxb:(x==y)=true:=by simpa using hx
    have hz:=HF.out hx;have HZ:=hid hz;rw[hxb]at hcall;clear hx hxb HF HST hz;go_wp2_with fail;refine hcall.out.mono ?_;rintro e w1 ⟨rfl,hB1⟩;dsimp only;go_wp2_with fail;go_ret;exact⟨ret_int HZ.out.symm,up HB.out hB1⟩
   ·have hxb:(x==y)=false:=by simpa using hx
    have hp:=HST.out hx;have HP2:=hid hp;rw[hxb]at hcall;clear hx hxb HF HST hp;go_wp2_with fail;refine hcall.out.mono ?_;rintro e w1 ⟨rfl,hB1⟩;dsimp only;go_wp2_with fail;go_roundw;case rel=>exact⟨k+1,by omega,by go_num,HP2,up HB.out hB1⟩
    case measure=>simp[intOf];omega
  ·obtain rfl:k=9:=by omega
   have hz:Hid (kIx y= -1):=kIx_none HP.out;go_wp2_with fail;go_ret;exact⟨ret_int hz.out.symm,HB.out⟩
theorem load_cmd {w:World}{b:Nat}{v0 v1 v2 v3 v4 v5 v6 v7:Value}(h:Blk w b #[v0,v1,v2,v3,v4,v5,v6,v7] 31):
 (loadVar 31 ⟨b,0,none⟩).run Tryz.prog w= .ok (.agg #[v0,v1,v2,v3,v4,v5,v6,v7]) w:=by
 have hlt:=h.lt;have c0:=h.cell 0;have c1:=h.cell 1;have c2:=h.cell 2;have c3:=h.cell 3;have c4:=h.cell 4;have c5:=h.cell 5;have c6:=h.cell 6;have c7:=h.cell 7;simp only[xG,xH,xI]at c0 c1 c2 c3 c4 c5 c6 c7;go_simp
theorem blk8 {w:World}{r:Nat}{x0 x1 x2 x3 x4 x5 x6 x7:Value}{t:TypeId}(h:Blk w r #[x0,x1,x2,x3,x4,x5,x6,x7] t)(y0 y1 y2 y3 y4 y5 y6 y7:Value):
 Blk ((((((((w.setCell ⟨r,0,none⟩ y0).setCell ⟨r,1,none⟩ y1).setCell ⟨r,2,none⟩ y2).setCell ⟨r,3,none⟩ y3).setCell ⟨r,4,none⟩ y4).setCell ⟨r,5,none⟩ y5).setCell ⟨r,6,none⟩ y6).setCell ⟨r,7,none⟩ y7) r #[y0,y1,y2,y3,y4,y5,y6,y7] t:=by
 have:=(((((((h.set 0 y0).set 1 y1).set 2 y2).set 3 y3).set 4 y4).set 5 y5).set 6 y6).set 7 y7;simpa using this
theorem below8 {B:Nat}{W0 w:World}{r:Nat}(h:Below B W0 w)(hr:B≤r)(y0 y1 y2 y3 y4 y5 y6 y7:Value):
 Below B W0 ((((((((w.setCell ⟨r,0,none⟩ y0).setCell ⟨r,1,none⟩ y1).setCell ⟨r,2,none⟩ y2).setCell ⟨r,3,none⟩ y3).setCell ⟨r,4,none⟩ y4).setCell ⟨r,5,none⟩ y5).setCell ⟨r,6,none⟩ y6).setCell ⟨r,7,none⟩ y7):=
 (((((((h.setCell (p:=⟨r,0,none⟩) hr _).setCell (p:=⟨r,1,none⟩) hr _).setCell (p:=⟨r,2,none⟩) hr _).setCell (p:=⟨r,3,none⟩) hr _).setCell (p:=⟨r,4,none⟩) hr _).setCell (p:=⟨r,5,none⟩) hr _).setCell (p:=⟨r,6,none⟩) hr _).setCell (p:=⟨r,7,none⟩) hr _
theorem subX8 (w:World)(r:Nat)(y0 y1 y2 y3 y4 y5 y6 y7:Value):SubX r w ((((((((w.setCell ⟨r,0,none⟩ y0).setCell ⟨r,1,none⟩ y1).setCell ⟨r,2,none⟩ y2).setCell ⟨r,3,none⟩ y3).setCell ⟨r,4,none⟩ y4).setCell ⟨r,5,none⟩ y5).setCell ⟨r,6,none⟩ y6).setCell ⟨r,7,none⟩ y7):=
 (((((((subX_set w r 0 y0).trans (subX_set _ r 1 y1)).trans (subX_set _ r 2 y2)).trans (subX_set _ r 3 y3)).trans (subX_set _ r 4 y4)).trans (subX_set _ r 5 y5)).trans (subX_set _ r 6 y6)).trans (subX_set _ r 7 y7)
theorem EdgesR.outC {w:World}{g:Nat}{k q n:Int}{s1 s2 s3:ByteArray}{ea va:Option Addr}{el ec vl vc:Nat}{T:TypeId}{v:Value}{es:List E}(h:EdgesR w v es)(hb:Blk w g #[.int .i64 k,.string s1,.string s2,.string s3,.int .i64 q,.int .i64 n,.slice ea el ec,.slice va vl vc] T):EdgesR (Go.Proofs.YtclgllmipcbagaaGreatDoor.mask g w) v es:=by
 obtain⟨a,cap,h1,h2,h3,h4,h5⟩:=h;refine⟨a,cap,h1,h2,h3,h4,?_⟩;rcases h5 with h5|⟨b,off,e,hlt,hc⟩
 ·exact .inl h5
 ·cases es with
  |nil=>exact .inl rfl
  |cons x es=>
   refine CellsAt.mask (.inr ⟨b,off,e,hlt,hc⟩) fun n' c' e2=> ?_
   subst e
   have e3:b=g:=by injection e2
   subst e3
   have z0:=(hb.cell (off+0)).symm.trans (hc 0 (by simp[E.cells]))
   have z1:=(hb.cell (off+1)).symm.trans (hc 1 (by simp[E.cells]))
   have z2:=(hb.cell (off+2)).symm.trans (hc 2 (by simp[E.cells]))
   simp only[E.cells,List.flatMap_cons,List.cons_append,xH,xI]at z0 z1 z2
   match off,z0,z1,z2 with
   |0,_,z1,_=>simp at z1
   |1,z0,_,_=>simp at z0
   |2,z0,_,_=>simp at z0
   |3,z0,_,_=>simp at z0
   |4,_,_,z2=>simp at z2
   |5,_,z1,_=>simp at z1
   |6,z0,_,_=>simp at z0
   |7,z0,_,_=>simp at z0
   |o+8,z0,_,_=>simp at z0
theorem EdgesR.putC {w w':World}{g:Nat}{k q n:Int}{s1 s2 s3:ByteArray}{ea va:Option Addr}{el ec vl vc:Nat}{T:TypeId}{v:Value}{es:List E}(h:EdgesR w v es)(hb:Blk w g #[.int .i64 k,.string s1,.string s2,.string s3,.int .i64 q,.int .i64 n,.slice ea el ec,.slice va vl vc] T)(hs:SubX g w w'):EdgesR w' v es:=
 ((h.outC hb).sub hs.mask).sub (sub_unmask _ _)
theorem IntsR.putF {w w':World}{g:Nat}{v:Value}{l:List Int}(h:IntsR w v l)(hf:v.ownBlock≠some g)(hs:SubX g w w'):IntsR w' v l:=((h.mask hf).sub hs.mask).sub (sub_unmask _ _)
def RetCmd (c:Cmd)(w:World)(e:Ending)(w':World):Prop:=∃ev vv,e= .returned (.agg #[.int .i64 c.kind,.string (str c.name),.string (str c.on),.string (str c.other),.int .i64 c.q,.int .i64 c.g.n,ev,vv])∧EdgesR w' ev c.g.es∧IntsR w' vv c.vals∧(∀ g,ev.ownBlock=some g∨vv.ownBlock=some g→w.heap.size≤g)∧Below w.heap.size w w'
theorem guess_fin {w Wf:World}{R:Nat}{ev vv:Value}{c:Cmd}(HR:Blk Wf R #[.int .i64 0,.string ⟨#[]⟩,.string ⟨#[]⟩,.string ⟨#[]⟩,.int .i64 0,.int .i64 0,.slice none 0 0,.slice none 0 0] 31)(hR:w.heap.size≤R)(hB:Below w.heap.size w Wf)(he:EdgesR Wf ev c.g.es)(hv:IntsR Wf vv c.vals)(hvf:∀g,ev.ownBlock=some g∨vv.ownBlock=some g→R<g):
 RetCmd c w (.returned (.agg #[.int .i64 c.kind,.string (str c.name),.string (str c.on),.string (str c.other),.int .i64 c.q,.int .i64 c.g.n,ev,vv])) ((((((((Wf.setCell ⟨R,0,none⟩ (.int .i64 c.kind)).setCell ⟨R,1,none⟩ (.string (str c.name))).setCell ⟨R,2,none⟩ (.string (str c.on))).setCell ⟨R,3,none⟩ (.string (str c.other))).setCell ⟨R,4,none⟩ (.int .i64 c.q)).setCell ⟨R,5,none⟩ (.int .i64 c.g.n)).setCell ⟨R,6,none⟩ ev).setCell ⟨R,7,none⟩ vv):=
 ⟨ev,vv,rfl,he.putC HR (subX8 ..),hv.putF (fun e=>by have:=hvf _ (.inr e);omega) (subX8 ..),fun g e=>by have:=hvf g e;omega,below8 hB hR _ _ _ _ _ _ _ _⟩
theorem StsR.put {w w':World}{g:Nat}{v:Value}{l:List (List UInt8)}(h:StsR w v l)(hf:v.ownBlock≠some g)(hs:SubX g w w'):StsR w' v l:=by
 obtain⟨a,cap,rfl,h1,h2,h3⟩:=h;refine⟨a,cap,rfl,h1,h2,((h3.mask fun n c=> ?_).sub hs.mask).sub (sub_unmask _ _)⟩;cases a<;>exact hf
theorem StsR.drop {w:World}{b off n cap:Nat}{l:List (List UInt8)}(h:StsR w (.slice (some ⟨b,off,none⟩) n cap) l){j:Nat}(hj:j≤l.length):StsR w (.slice (some ⟨b,off+j,none⟩) (n-j) (cap-j)) (l.drop j):=by
 obtain⟨a,cap',e,h1,h2,h3⟩:=h;injection e with e1 e2 e3
 subst e1 e2 e3;refine⟨_,_,by rw[List.length_drop],by rw[List.length_drop];omega,by omega,?_⟩;rcases h3 with h3|⟨b',o',e,hb,hc⟩
 ·rw[List.map_eq_nil_iff]at h3;subst h3;exact .inl (by simp)
 ·injection e with e
  injection e with e1 e2
  subst e1 e2;refine .inr ⟨b,off+j,rfl,hb,fun i hi=> ?_⟩;rw[List.length_map,List.length_drop]at hi;rw[Nat.add_assoc,hc (j+i) (by rw[List.length_map];omega),List.getElem?_map,List.getElem?_map,List.getElem?_drop]
theorem StsR.zero {w:World}{a:Option Addr}{l:List (List UInt8)}(h:l=[]):StsR w (.slice a 0 0) l:=by
 subst h;exact⟨a,0,rfl,Nat.le_refl _,by omega,.inl rfl⟩
theorem joinT_joinB:∀l:List (List UInt8),joinT [32] l=joinB l
 |[]=>rfl
 |[x]=>rfl
 |x::y::r=>by
  show x++[32]++joinT [32] (y::r)=x++32::joinB (y::r);rw[joinT_joinB (y::r)];simp
theorem joinB_drop:∀(j:Nat) (l:List (List UInt8)),(joinB (l.drop j)).length≤(joinB l).length
 |0,l=>Nat.le_refl _
 |j+1,[]=>by simp
 |j+1,[x]=>by simp[joinB]
 |j+1,x::y::r=>by
  have:=joinB_drop j (y::r);rw[List.drop_succ_cons];have e:joinB (x::y::r)=x++32::joinB (y::r):=rfl;rw[e,List.length_append,List.length_cons];omega
theorem part_len (t:List UInt8):∀x∈parts32 t,x.length≤t.length:=by
 have h:∀l:List (List UInt8),∀x∈l,x.length≤(joinB l).length:=by
  intro l;induction l with
  |nil=>intro x hx;cases hx
  |cons y r ih=>
   intro x hx
   cases r with
   |nil=>rw[List.mem_singleton.1 hx];exact Nat.le_refl _
   |cons z r=>
    have e:joinB (y::z::r)=y++32::joinB (z::r):=rfl
    rw[e,List.length_append,List.length_cons]
    rcases List.mem_cons.1 hx with rfl|hx
    ·omega
    ·have:=ih x hx;omega
 intro x hx;have:=h _ x hx;rwa[joinB_parts]at this
theorem kIx_le (x:List UInt8):kIx x≤8:=by
 unfold kIx;repeat(split;omega)
 omega
theorem c_JoinS {l:List (List UInt8)}{a:Option Addr}{n cap:Nat}(w:World)(h:StsR w (.slice a n cap) l)(hn:l.length≤1000000)(hl:(joinB l).length≤1000000000):
 Calls Tryz.prog 115 #[.slice a n cap,.string {data:= #[32]}] w fun e w'=>e= .returned (.string (str (joinB l)))∧Below w.heap.size w w':=by
 obtain⟨a',cap',e,h1,h2,h3⟩:=h;injection e with e1 e2 e3
 subst e1 e2 e3;have hj:=c_Join a cap l [32] w h1 hn (by rw[joinT_joinB];exact hl) (by
  rcases h3 with h3|⟨b,off,e,hb,hc⟩
  ·rw[List.map_eq_nil_iff]at h3;exact .inl h3
  ·refine .inr ⟨b,off,e,hb,fun j hj=> ?_⟩
   rw[hc j (by rw[List.length_map];exact hj),List.getElem?_map,List.getElem?_eq_getElem hj];rfl)
 rw[joinT_joinB]at hj;exact hj
theorem grown_cellC {w w':World}{g:Nat}(hg:w.grownBy w' (some g)){p:Addr}(hlt:p.block<w.heap.size)(hne:p.block≠g):w'.cell? p=w.cell? p:=World.cell?_of_block (hg.block p.block hlt (by simpa using hne))
end Go.Proofs.YtclgllmipcbagaaGreatDoor
