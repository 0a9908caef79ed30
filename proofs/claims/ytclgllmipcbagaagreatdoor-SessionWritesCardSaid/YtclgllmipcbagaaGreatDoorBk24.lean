/-
  Parts of the proof: XTc XTd XU5 XU8 XRd
-/
import Derived.Test.YtclgllmipcbagaaGreatDoorBk21
import Derived.Test.YtclgllmipcbagaaGreatDoorBk12
import Derived.Test.YtclgllmipcbagaaGreatDoorBk17
import Derived.Test.YtclgllmipcbagaaGreatDoorBk23
import Derived.Test.YtclgllmipcbagaaGreatDoorBk22
import Derived.Test.YtclgllmipcbagaaGreatDoorBk15
import Derived.Test.YtclgllmipcbagaaGreatDoorRows
import Derived.ProofKit
import Derived.OpenShut
import Derived.ChangeOld
import Derived.Below
import Derived.Carry
import Derived.SizedLaws
import Derived.Lib.SmallJoins
import Derived.Deep.Slices
import Derived.Deep.SlicePairs
import Derived.Deep.Fields
import Derived.WalkKit
import Derived.Test.YtclgllmipcbagaaGreatDoorBk00
namespace Go.Proofs.YtclgllmipcbagaaGreatDoor
open Go.RowKit
set_option linter.unusedVariables false
set_option linter.unusedSimpArgs false
set_option maxRecDepth 100000
set_option maxHeartbeats 16000000
theorem intsT_chip:∀{l:List Int},(∀ x∈l,chipB x=true)→(intsT l).length≤9*l.length
 |[],_=>by simp[intsT]
 |x::l,h=>by
  have ih:=intsT_chip (l:=l) fun y hy=>h y (List.mem_cons_of_mem _ hy);have h1:=(itoa_chip (h x (List.mem_cons_self ..))).1;rw[intsT_cons];simp only[List.length_cons,List.length_append];omega
theorem s_listed (l:List Int)(v:Value)(w:World)(hE:Env w)(hl:IntsR w v l)(hc:∀x∈l,chipB x=true)(hn:l.length≤1000000):
 Calls Tryz.prog 108 #[v] w fun e w'=>e= .returned (.string (str (intsT l)))∧Below w.heap.size w w':=by
 obtain⟨Z,HZ⟩:∃Z,Hid (Z=intsT l):=⟨_,rfl⟩;rw[← HZ.out];have HL:=hid hl;have HE:=hid hE;have HC:=hid hc;obtain⟨a,cap,rfl,hcap,hcm,_⟩:=hl;clear hc hE;go_enter Tryz.func108,Tryz.ntmps108;go_upto_region 2 with fail;have HBD:=hid (Bld.fresh w);have HB:=hid ((Below.refl w.heap.size w).alloc (Nat.le_refl _) (.cells #[.pointer none,.slice none 0 0] 133));generalize hbb:w.heap.size=bb at*
 generalize w.alloc (.cells #[.pointer none,.slice none 0 0] 133)=W2 at*
 go_wp2_with fail;go_loopw [8] (fun i wr=>∃k:Nat,k≤l.length∧i= .int .i64 k∧Hid (Bld bb bb (intsT (l.take k)) wr)∧Hid (Below bb w wr)) (fun i _=>l.length-(intOf i).toNat);case atStart=>exact⟨0,Nat.zero_le _,rfl,HBD,HB⟩
 case round=>
  clear HBD HB;obtain⟨k,hk,rfl,HBD,HBW⟩:=hrel;have hBw:Below w.heap.size w wr:=by rw[hbb];exact HBW.out
  have HBR:=hid hBw;clear hBw;by_cases hlt:k<l.length
  ·have hlt':(k:Int)<(l.length:Int):=by omega
   have hk0:(0:Int)≤(k:Int):=by omega
   obtain⟨a',cap',ea,_,_,_,hc⟩:=HL.out.below HBR.out;injection ea with ea1 _ ea3
   subst ea1 ea3;obtain⟨b,off,rfl,hb,hc⟩:=hc.int (by omega);have c0:=hc k hlt;have HSN:=hid (intsT_snoc l k hlt);have HX:Hid (chipB (l[k]?.getD 0)=true):=HC.out _ (by rw[List.getElem?_eq_getElem hlt];exact List.getElem_mem hlt);have HLN:Hid ((intsT (l.take k)).length≤9*k):=by
    show _≤_;have:=intsT_chip (l:=l.take k) fun x hx=>HC.out x (List.mem_of_mem_take hx);rw[List.length_take]at this;omega
   clear hc;generalize l[k]?.getD 0=x at*
   obtain⟨h8,hx0,hx1⟩:=itoa_chip HX.out;go_wp2_with fail;refine(c_Itoa x (by omega) (by omega) wr (HE.out.below HBR.out)).mono ?_;rintro e w3 ⟨rfl,hB3⟩;have HB3:=hid (up HBR.out hB3);have HBD3:=hid (HBD.out.below hB3);clear hB3 c0 hb HBD HBW HBR;have z1:=str_size (Lib.itoa x);dsimp only;go_wp2_with fail;rw[str2b];refine(c_WriteString bb bb (intsT (l.take k)) (32::Lib.itoa x) w3 HBD3.out (by have:=HLN.out;omega) (by simp;omega)).mono ?_;rintro e w4 ⟨rv,rfl,hbd,hbw,_⟩;rw[← HSN.out]at hbd;have HBD4:=hid hbd;have hb3:Below bb w w3:=by rw[← hbb];exact HB3.out
   have HB4:=hid (hb3.trans hbw);clear hbd hbw hb3;dsimp only;go_wp2_with fail;go_roundw;case rel=>exact⟨k+1,by omega,by go_num,HBD4,HB4⟩
   case measure=>simp[intOf];omega
  ·obtain rfl:k=l.length:=by omega
   have hlt':¬(l.length:Int)<(l.length:Int):=by omega
   have hbd:=HBD.out;rw[List.take_length,←HZ.out]at hbd;have HBD2:=hid hbd;clear hbd HBD;go_wp2_with fail;refine(c_String bb bb _ wr HBD2.out).mono ?_;rintro e w5 ⟨rfl,hB5⟩;dsimp only;go_wp2_with fail;go_ret;exact⟨rfl,by rw[hbb];exact HBW.out.trans hB5⟩
theorem idx_w (k:Nat)(hk:k<9):∃b1 b2 b3 b4 b5 f,∀w:World,(Instr.index 111 verbsV (.int .i64 k)).run Tryz.prog w= .ok (.agg #[.string (str (verbsW[k]?.getD [])),.bool b1,.bool b2,.bool b3,.bool b4,.bool b5,.func f #[] #[]]) w:=
 match k,hk with
 |0,_=>⟨_,_,_,_,_,_,idx_v0⟩
 |1,_=>⟨_,_,_,_,_,_,idx_v1⟩
 |2,_=>⟨_,_,_,_,_,_,idx_v2⟩
 |3,_=>⟨_,_,_,_,_,_,idx_v3⟩
 |4,_=>⟨_,_,_,_,_,_,idx_v4⟩
 |5,_=>⟨_,_,_,_,_,_,idx_v5⟩
 |6,_=>⟨_,_,_,_,_,_,idx_v6⟩
 |7,_=>⟨_,_,_,_,_,_,idx_v7⟩
 |8,_=>⟨_,_,_,_,_,_,idx_v8⟩
theorem fld_word (s0:ByteArray)(b1 b2 b3 b4 b5:Bool)(f:Fn)(w:World):(Instr.field 110 (.agg #[.string s0,.bool b1,.bool b2,.bool b3,.bool b4,.bool b5,.func f #[] #[]]) 0).run Tryz.prog w= .ok (.string s0) w:=by kernel_rfl
theorem verbsW_len (k:Nat):(verbsW[k]?.getD []).length≤9:=by
 by_cases h:k<9
 ·revert h;revert k;decide
 ·rw[List.getElem?_eq_none (by simp[verbsW];omega)];simp
theorem str_b (h g:List UInt8):str h++({data:= #[32]}:ByteArray)++str g=str (h++32::g):=by
 apply ByteArray.ext;simp[str]
theorem str_on (h g r:List UInt8):str h++({data:= #[32,111,110,32]}:ByteArray)++str g++str r=str (h++32::(wOn++32::(g++r))):=by
 apply ByteArray.ext;simp[str,wOn]
theorem str_atT (h r:List UInt8):str h++({data:= #[32,97,116]}:ByteArray)++str r=str (h++32::(wAt++r)):=by
 apply ByteArray.ext;simp[str,wAt]
theorem str_bb (h g r:List UInt8):str h++({data:= #[32]}:ByteArray)++str g++({data:= #[32]}:ByteArray)++str r=str (h++32::(g++32::r)):=by
 apply ByteArray.ext;simp[str]
theorem str_two (h r:List UInt8):str h++str r=str (h++r):=by
 apply ByteArray.ext;simp[str]
theorem chip_of {l:List Int}(h:∀x∈l,-1048576≤x∧x≤1048576):∀x∈l,chipB x=true:=fun x hx=>by
 have:=h x hx;unfold chipB;simp only[Bool.and_eq_true,decide_eq_true_eq];exact this
theorem listed_one (q:Int)(w:World)(hE:Env w)(h0:0≤q)(h1:q<12):
 Calls Tryz.prog 108 #[.slice (some ⟨w.heap.size,0,none⟩) 1 1] (w.alloc (.cells #[.int .i64 q] 3)) fun e w'=>e= .returned (.string (str (intsT [q])))∧Below w.heap.size w w':=by
 have hB:Below w.heap.size w (w.alloc (.cells #[.int .i64 q] 3)):=by go_grown
 refine(s_listed [q] _ _ (hE.below hB) ⟨_,_,rfl,by simp,by omega,by simp,.inr ⟨_,0,rfl,by simp,fun i hi=> ?_⟩⟩ (fun x hx=> ?_) (by simp)).mono fun e w' h=>⟨h.1,up hB h.2⟩
 ·rw[Nat.zero_add,(Blk.new w _ _).cell i,List.getElem?_toArray];rfl
 ·rw[List.mem_singleton]at hx
  subst hx;unfold chipB;simp;omega
theorem s_text (c:Cmd)(cv:Value)(w:World)(hE:Env w)(hc:CmdR w cv c)(hr:rightErr c=0):
 Calls Tryz.prog 68 #[cv] w fun e w'=>e= .returned (.string (str (textOf c)))∧Below w.heap.size w w':=by
 obtain⟨k0,k8,hw,hn,hs⟩:=right_ok hr;obtain⟨w1,w2,w3⟩:=cwords_ok hw;obtain⟨n1,n2,n3⟩:=cnums_ok hn;obtain⟨s1,s2,s3,s4,s5,s6⟩:=cspare_ok hs;obtain⟨Z,HZ⟩:∃Z,Hid (Z=textOf c):=⟨_,rfl⟩;rw[← HZ.out];obtain⟨ev,vv,rfl,he,hv⟩:=hc;obtain⟨ea,ec,rfl,_⟩:=id he;obtain⟨va,vc,rfl,_⟩:=id hv;obtain⟨ck,cn,co,cp,cq,cg,cvl⟩:=c;dsimp only at*
 obtain⟨kn,rfl⟩:∃kn:Nat,ck=(kn:Int):=⟨ck.toNat,by omega⟩;have hk9:kn<9:=by omega
 have HN1:Hid (kn≤6→(str cn).toList.isEmpty=false∧cn.length≤24):=fun h=>by
  obtain⟨a1,a2,a3⟩:=wordErr_ok (w1 (by simp[kName];omega));exact⟨by rw[str_toList];simpa using a1,a3⟩
 have HN2:Hid (¬ kn≤6→cn=[]):=fun h=>s1 (by simp[kName];omega);have HO:Hid (kn=1∨kn=5→co.length≤24):=fun h=>(wordErr_ok (w2 (by simp[kOn];omega))).2.2;have HP:Hid (kn=5→cp.length≤24):=fun h=>(wordErr_ok (w3 (by simp[kOther];omega))).2.2;have HV:Hid (kn=1∨kn=2→cvl.length≤12∧∀x∈cvl,chipB x=true):=fun h=>⟨(n3 (by simp[kVals];omega)).2.1,chip_of (chips_in (n3 (by simp[kVals];omega)).2.2)⟩;have HQ:Hid (kn=3∨kn=4→0≤cq∧cq<12):=fun h=>n1 (by simp[kAt];omega);have HG:Hid (kn=0→(graphR cg).2.length≤1400):=fun h=>(graphR_ok (n2 (by omega))).2;have HEV:=hid he;have HVV:=hid hv;have HE:=hid hE;have HBK:=hid (Blk.new w #[.int .i64 kn,.string (str cn),.string (str co),.string (str cp),.int .i64 cq,.int .i64 cg.n,.slice ea cg.es.length ec,.slice va cvl.length vc] 31)
 have hB:Below w.heap.size w (w.alloc (.cells #[.int .i64 kn,.string (str cn),.string (str co),.string (str cp),.int .i64 cq,.int .i64 cg.n,.slice ea cg.es.length ec,.slice va cvl.length vc] 31)):=by go_grown
 have HB0:=hid hB;obtain⟨b1,b2,b3,b4,b5,f,hix⟩:=idx_w kn hk9;have HIX:=hid hix;have HWL:=hid (verbsW_len kn);clear k0 k8 hw hn hs w1 w2 w3 n1 n2 n3 s1 s2 s3 s4 s5 s6 hE he hv hB hix hr;generalize hwd:verbsW[kn]?.getD []=wd at*
 have HWD:=hid hwd;clear hwd;go_enter Tryz.func68,Tryz.ntmps68;go_upto_region 1 with fail;generalize w.alloc (.cells #[.int .i64 kn,.string (str cn),.string (str co),.string (str cp),.int .i64 cq,.int .i64 cg.n,.slice ea cg.es.length ec,.slice va cvl.length vc] 31)=W0 at*
 have lx:=HBK.out.lt;have x0:=HBK.out.cell 0;simp only[xG,xH,xI]at x0;let S:World→Prop:=fun w'=>Below W0.heap.size W0 w'
 (refine wp_region_pre 2 5 [1] [2,0,3,4] S (by kernel_rfl) (by kernel_rfl) (by intro _ _ d _ _ h;cases d<;>exact h) ?_;simp only[xA,xB,xC,xD,xE,xF]);(repeat ((refine' wpSeq_take rfl _ (by rfl) ?_ ?_;rotate_left;focus(intro w' hS;(try dsimp only at hS);skip;go_simp;(first|done|with_reducible rfl));(try go_frame));(try go_frame)));refine wpSeq_nil ⟨Below.drew (Below.refl _ _),?_⟩;(repeat ((refine' wpSeq_take rfl _ (by rfl) ?_ ?_;rotate_left;focus(intro w' hS;(try dsimp only at hS);have q0:w'.cell? ⟨w.heap.size,0,none⟩=some (.int .i64 kn):=(Below.cell hS (p:=⟨w.heap.size,0,none⟩) lx).trans x0;go_simp;(first|done|with_reducible rfl));(try go_frame));(try go_frame)))
 (refine wpSeq_call rfl (by rfl) (fun K hK=> ?_);go_simp;refine(s_verbs _).mono ?_;rintro e w4 ⟨rfl,hB4⟩;refine hK _ _ (up (Below.drew (Below.refl _ _)) hB4) ?_;clear hK K;(try go_frame));have HB4:Hid (Below W0.heap.size W0 w4):=up (Below.drew (Below.refl _ _)) hB4;clear hB4;(refine' wpSeq_take rfl _ (by rfl) ?_ ?_;rotate_left;focus(intro w' hS;(try dsimp only at hS);have i0:=HIX.out w';go_simp;(first|done|with_reducible rfl));(try go_frame));(refine' wpSeq_take rfl _ (by rfl) ?_ ?_;rotate_left;focus(intro w' hS;(try dsimp only at hS);have i1:=fld_word (str wd) b1 b2 b3 b4 b5 f w';go_simp;(first|done|with_reducible rfl));(try go_frame))
 refine wpSeq_nil ?_;clear S;have HBK4:=hid (HBK.out.below HB4.out);have HB5:=hid (up HB0.out HB4.out);clear HBK HB0 HB4 HIX lx x0;have lx:=HBK4.out.lt;have x0:=HBK4.out.cell 0;have x1:=HBK4.out.cell 1;have x2:=HBK4.out.cell 2;have x3:=HBK4.out.cell 3;have x4:=HBK4.out.cell 4;have x5:=HBK4.out.cell 5;have x6:=HBK4.out.cell 6;have x7:=HBK4.out.cell 7;simp only[xG,xH,xI]at x0 x1 x2 x3 x4 x5 x6 x7;have zw:=str_size wd;have zl:=HWL.out;by_cases hk6:kn≤6
 ·obtain⟨hne,hn24⟩:=HN1.out hk6
  have z1:=str_size cn;have z2:=str_spc cn;clear HN1 HN2;go_upto_region 4 with fail;rw[str_add];have hl34:(wd++32::cn).length≤34:=by simp;omega
  have zh:=str_size (wd++32::cn);generalize hh:wd++32::cn=hd at*
  have HH:=hid hh;clear hh hne z1 z2 zw zl;have hkc:kn=0∨kn=1∨kn=2∨kn=3∨kn=4∨kn=5∨kn=6:=by omega
  clear hk6 hk9;rcases hkc with rfl|rfl|rfl|rfl|rfl|rfl|rfl
  ·skip
   have hz:Hid (Z=hd++32::(graphR cg).2):=by show _=_;rw[HZ.out,←HH.out,←HWD.out];simp[textOf,verbsW]
   have HZ2:=hid hz.out;clear HZ hz;have HGC:=hid (n_Graph cg (.agg #[.int .i64 cg.n,.slice ea cg.es.length ec]) w4 ⟨_,rfl,HEV.out.below HB5.out⟩);have hzg:=HG.out rfl;have zg:=str_size (graphR cg).2;unfold limV at HGC;generalize (graphR cg).2=gt at*
   generalize (graphR cg).1=ge at*
   go_wp2_with fail;refine HGC.out.mono ?_;rintro e w5 ⟨rfl,hB5⟩;dsimp only;go_wp2_with fail;go_ret;exact⟨by rw[str_b,HZ2.out];rfl,up HB5.out hB5⟩
  ·skip
   have hz:Hid (Z=hd++32::(wOn++32::(co++intsT cvl))):=by show _=_;rw[HZ.out,←HH.out,←HWD.out];simp[textOf,verbsW]
   have HZ2:=hid hz.out;clear HZ hz;obtain⟨hv12,hvc⟩:=HV.out (.inl rfl);have ho24:=HO.out (.inl rfl);have HVC:=hid hvc;have hil:=intsT_chip hvc;have zi:=str_size (intsT cvl);have zo:=str_size co;clear hvc;go_upto_region 9 with fail;let S:World→Prop:=fun w'=>Below w4.heap.size w4 w'
   (refine wp_region_pre 2 8 [0,1,2,5] [3,4,6,7] S (by kernel_rfl) (by kernel_rfl) (by intro _ _ d _ _ h;cases d<;>exact h) ?_;simp only[xA,xB,xC,xD,xE,xF]);(repeat ((refine' wpSeq_take rfl _ (by rfl) ?_ ?_;rotate_left;focus(intro w' hS;(try dsimp only at hS);skip;go_simp;(first|done|with_reducible rfl));(try go_frame));(try go_frame)));(refine' wpSeq_take rfl _ (by rfl) ?_ ?_;rotate_left;focus(intro w' hS;(try dsimp only at hS);go_simp;rw[if_neg (by omega)]);(try go_frame));(repeat ((refine' wpSeq_take rfl _ (by rfl) ?_ ?_;rotate_left;focus(intro w' hS;(try dsimp only at hS);skip;go_simp;(first|done|with_reducible rfl));(try go_frame));(try go_frame)))
   refine wpSeq_nil ⟨Below.drew (Below.refl _ _),?_⟩;(repeat ((refine' wpSeq_take rfl _ (by rfl) ?_ ?_;rotate_left;focus(intro w' hS;(try dsimp only at hS);have q2:w'.cell? ⟨w.heap.size,2,none⟩=some (.string (str co)):=(Below.cell hS (p:=⟨w.heap.size,2,none⟩) lx).trans x2;go_simp;(first|done|with_reducible rfl));(try go_frame));(try go_frame)));(refine' wpSeq_take rfl _ (by rfl) ?_ ?_;rotate_left;focus(intro w' hS;(try dsimp only at hS);go_simp;rw[if_neg (by simp;omega)]);(try go_frame));(repeat ((refine' wpSeq_take rfl _ (by rfl) ?_ ?_;rotate_left;focus(intro w' hS;(try dsimp only at hS);have q6:w'.cell? ⟨w.heap.size,6,none⟩=some (.slice ea cg.es.length ec):=(Below.cell hS (p:=⟨w.heap.size,6,none⟩) lx).trans x6;have q7:w'.cell? ⟨w.heap.size,7,none⟩=some (.slice va cvl.length vc):=(Below.cell hS (p:=⟨w.heap.size,7,none⟩) lx).trans x7;go_simp;(first|done|with_reducible rfl));(try go_frame));(try go_frame)))
   (refine wpSeq_call rfl (by rfl) (fun K hK=> ?_);go_simp;refine((s_listed cvl (.slice va cvl.length vc) _ (HE.out.below (up HB5.out (Below.drew (Below.refl _ _)))) (HVV.out.below (up HB5.out (Below.drew (Below.refl _ _)))) HVC.out (by omega))).mono ?_;rintro e w5 ⟨rfl,hB5⟩;refine hK _ _ (up (Below.drew (Below.refl _ _)) hB5) ?_;clear hK K;(try go_frame));refine wpSeq_nil ?_;clear S;have HB6:=hid (up HB5.out (up (Below.drew (Below.refl _ _)) hB5));clear hB5;go_wp2_with fail;go_ret;exact⟨by rw[str_on,HZ2.out];rfl,HB6.out⟩
  ·skip
   have hz:Hid (Z=hd++intsT cvl):=by show _=_;rw[HZ.out,←HH.out,←HWD.out];simp[textOf,verbsW]
   have HZ2:=hid hz.out;clear HZ hz;obtain⟨hv12,hvc⟩:=HV.out (.inr rfl);have HLI:=hid (s_listed cvl (.slice va cvl.length vc) w4 (HE.out.below HB5.out) (HVV.out.below HB5.out) hvc (by omega));have hil:=intsT_chip hvc;have zi:=str_size (intsT cvl);clear hvc;go_wp2_with fail;refine HLI.out.mono ?_;rintro e w5 ⟨rfl,hB5⟩;dsimp only;go_wp2_with fail;go_ret;exact⟨by rw[str_two,HZ2.out];rfl,up HB5.out hB5⟩
  ·skip
   have hz:Hid (Z=hd++32::(wAt++intsT [cq])):=by show _=_;rw[HZ.out,←HH.out,←HWD.out];simp[textOf,verbsW]
   have HZ2:=hid hz.out;clear HZ hz;obtain⟨hq0,hq1⟩:=HQ.out (.inl rfl);have HLQ:=hid (listed_one cq w4 (HE.out.below HB5.out) hq0 hq1);have hil:=intsT_chip (l:=[cq]) (fun x hx=>by rw[List.mem_singleton]at hx;subst hx;unfold chipB;simp;omega);have zi:=str_size (intsT [cq]);rw[List.length_singleton]at hil;go_wp2_with fail;refine HLQ.out.mono ?_;rintro e w5 ⟨rfl,hB5⟩;have HB6:=hid (up HB5.out hB5);clear hB5 HLQ;generalize intsT [cq]=tq at*
   dsimp only;go_wp2_with fail;go_ret;exact⟨by rw[str_atT,HZ2.out];rfl,HB6.out⟩
  ·skip
   have hz:Hid (Z=hd++32::(wAt++intsT [cq])):=by show _=_;rw[HZ.out,←HH.out,←HWD.out];simp[textOf,verbsW]
   have HZ2:=hid hz.out;clear HZ hz;obtain⟨hq0,hq1⟩:=HQ.out (.inr rfl);have HLQ:=hid (listed_one cq w4 (HE.out.below HB5.out) hq0 hq1);have hil:=intsT_chip (l:=[cq]) (fun x hx=>by rw[List.mem_singleton]at hx;subst hx;unfold chipB;simp;omega);have zi:=str_size (intsT [cq]);rw[List.length_singleton]at hil;go_wp2_with fail;refine HLQ.out.mono ?_;rintro e w5 ⟨rfl,hB5⟩;have HB6:=hid (up HB5.out hB5);clear hB5 HLQ;generalize intsT [cq]=tq at*
   dsimp only;go_wp2_with fail;go_ret;exact⟨by rw[str_atT,HZ2.out];rfl,HB6.out⟩
  ·skip
   have hz:Hid (Z=hd++32::(co++32::cp)):=by show _=_;rw[HZ.out,←HH.out,←HWD.out];simp[textOf,verbsW]
   have HZ2:=hid hz.out;clear HZ hz;have ho24:=HO.out (.inr rfl);have hp24:=HP.out rfl;have zo:=str_size co;have zp:=str_size cp;go_wp2_with fail;go_ret;exact⟨by rw[str_bb,HZ2.out];rfl,HB5.out⟩
  ·skip
   have hz:Hid (Z=hd):=by show _=_;rw[HZ.out,←HH.out,←HWD.out];simp[textOf,verbsW]
   have HZ2:=hid hz.out;clear HZ hz;go_wp2_with fail;go_ret;exact⟨by rw[HZ2.out];rfl,HB5.out⟩
 ·obtain rfl:=HN2.out hk6
  have hkc:kn=7∨kn=8:=by omega
  clear hk6 hk9;have hne:(str ([]:List UInt8)).toList.isEmpty=true:=by rw[str_toList];rfl
  rcases hkc with rfl|rfl
  ·have hz:Hid (Z=wd):=by show _=_;rw[HZ.out,←HWD.out];simp[textOf,verbsW]
   go_wp2_with fail;go_ret;exact⟨by rw[hz.out];rfl,HB5.out⟩
  ·have hz:Hid (Z=wd):=by show _=_;rw[HZ.out,←HWD.out];simp[textOf,verbsW]
   go_wp2_with fail;go_ret;exact⟨by rw[hz.out];rfl,HB5.out⟩
theorem s_Text (c:Cmd)(cv:Value)(w:World)(hE:Env w)(hc:CmdR w cv c)(hm:SmCmd c):
 Calls Tryz.prog 21 #[cv] w fun e w'=>e= .returned (limV (textR c))∧Below w.heap.size w w':=by
 have HC:=hid hc;have HE:=hid hE;obtain⟨Z,HZ⟩:∃Z,Hid (Z=textR c):=⟨_,rfl⟩;rw[← HZ.out];obtain⟨ev,vv,rfl,he,hv⟩:=hc;obtain⟨ea,ec,rfl,_⟩:=id he;obtain⟨va,vc,rfl,_⟩:=id hv;have HBK:=hid (Blk.new w #[.int .i64 c.kind,.string (str c.name),.string (str c.on),.string (str c.other),.int .i64 c.q,.int .i64 c.g.n,.slice ea c.g.es.length ec,.slice va c.vals.length vc] 31);have hB:Below w.heap.size w (w.alloc (.cells #[.int .i64 c.kind,.string (str c.name),.string (str c.on),.string (str c.other),.int .i64 c.q,.int .i64 c.g.n,.slice ea c.g.es.length ec,.slice va c.vals.length vc] 31)):=by go_grown
 have HB0:=hid hB;clear hE hB he hv;go_enter Tryz.func21,Tryz.ntmps21;go_upto_region 1 with fail;generalize w.alloc (.cells #[.int .i64 c.kind,.string (str c.name),.string (str c.on),.string (str c.other),.int .i64 c.q,.int .i64 c.g.n,.slice ea c.g.es.length ec,.slice va c.vals.length vc] 31)=W0 at*
 have HRI:=hid (s_Right c _ W0 (HC.out.below HB0.out) hm);have hz:=HZ.out;unfold textR at hz;generalize hre:rightErr c=re at*
 have lx:=HBK.out.lt;have x0:=HBK.out.cell 0;have x1:=HBK.out.cell 1;have x2:=HBK.out.cell 2;have x3:=HBK.out.cell 3;have x4:=HBK.out.cell 4;have x5:=HBK.out.cell 5;have x6:=HBK.out.cell 6;have x7:=HBK.out.cell 7;simp only[xG,xH,xI]at x0 x1 x2 x3 x4 x5 x6 x7;by_cases h0:re=0
 case neg=>
  rw[if_pos h0]at hz;have HZ2:=hid hz;have hb:(re !=0)=true:=by simpa using h0
  clear hz hre h0;go_wp2_with fail;refine HRI.out.mono ?_;rintro e w1 ⟨rfl,hB1⟩;dsimp only;go_wp2_with fail;refine bodyPost_ret (results_two rfl _ _ _) rfl ?_;exact⟨by rw[HZ2.out];rfl,up HB0.out hB1⟩
 subst h0;rw[if_neg (by simp)]at hz;have HZ2:=hid hz;have HRE:=hid hre;clear hz hre HZ;go_wp2_with fail;refine HRI.out.mono ?_;rintro e w1 ⟨rfl,hB1⟩;have HB1:=hid (up HB0.out hB1);have HBK1:=hid (HBK.out.below hB1);clear hB1 lx x0 x1 x2 x3 x4 x5 x6 x7 HBK HB0 HRI;have HTX:=hid (s_text c _ w1 (HE.out.below HB1.out) (HC.out.below HB1.out) HRE.out);have lx:=HBK1.out.lt;have x0:=HBK1.out.cell 0;have x1:=HBK1.out.cell 1;have x2:=HBK1.out.cell 2;have x3:=HBK1.out.cell 3;have x4:=HBK1.out.cell 4;have x5:=HBK1.out.cell 5;have x6:=HBK1.out.cell 6;have x7:=HBK1.out.cell 7;simp only[xG,xH,xI]at x0 x1 x2 x3 x4 x5 x6 x7
 generalize textOf c=tx at*
 have hsz:=str_size tx;dsimp only;go_wp2_with fail;refine HTX.out.mono ?_;rintro e w2 ⟨rfl,hB2⟩;have HB2:=hid (up HB1.out hB2);have hz:=HZ2.out;unfold limR at hz;clear hB2;dsimp only;by_cases hlong:4096<tx.length
 ·rw[if_pos hlong]at hz
  have HZ3:=hid hz;have hl:(4096:Int)<((str tx).size:Int):=by omega
  clear hz;go_wp2_with fail;refine bodyPost_ret (results_two rfl _ _ _) rfl ?_;exact⟨by rw[HZ3.out];rfl,HB2.out⟩
 ·rw[if_neg hlong]at hz
  have HZ3:=hid hz;have hl:¬(4096:Int)<((str tx).size:Int):=by omega
  clear hz;go_wp2_with fail;refine bodyPost_ret (results_two rfl _ _ _) rfl ?_;exact⟨by rw[HZ3.out];rfl,HB2.out⟩
theorem part_at (t:List UInt8)(i:Nat):((parts32 t)[i]?.getD []).length≤t.length:=by
 by_cases h:i<(parts32 t).length
 ·rw[List.getElem?_eq_getElem h]
  exact part_len t _ (List.getElem_mem h)
 ·rw[List.getElem?_eq_none (by omega)];simp
theorem guessP_sm {t:List UInt8}(h:t.length≤4096):SmCmd (guessP t):=by
 have hp:=part_at t;have h1:=hp 1;have h2:=hp 2;have h3:=hp 3;unfold guessP;dsimp only;unfold SmCmd;repeat' split
 all_goals(refine ⟨?_,?_,?_⟩<;>(first|(dsimp only[cmd0];simp;done)|(dsimp only;omega)))
def RetRead (r:Int×Cmd)(w:World)(e:Ending)(w':World):Prop:=∃v,e= .returned (.tuple #[v,.int .i64 r.1])∧CmdR w' v r.2∧Below w.heap.size w w'
theorem CmdR.form {w:World}{v:Value}{c:Cmd}(h:CmdR w v c):∃ea ec va vc,v= .agg #[.int .i64 c.kind,.string (str c.name),.string (str c.on),.string (str c.other),.int .i64 c.q,.int .i64 c.g.n,.slice ea c.g.es.length ec,.slice va c.vals.length vc]∧EdgesR w (.slice ea c.g.es.length ec) c.g.es∧IntsR w (.slice va c.vals.length vc) c.vals:=by
 obtain⟨ev,vv,rfl,he,hv⟩:=h;obtain⟨ea,ec,rfl,_⟩:=id he;obtain⟨va,vc,rfl,_⟩:=id hv;exact⟨ea,ec,va,vc,rfl,he,hv⟩
def RetReadF (r:Int×Cmd)(w:World)(e:Ending)(w':World):Prop:=∃v,e= .returned (.tuple #[v,.int .i64 r.1])∧RetCmd r.2 w (.returned v) w'
theorem RetCmd.read {c:Cmd}{w w':World}{v:Value}(h:RetCmd c w (.returned v) w')(k:Int):RetReadF (k,c) w (.returned (.tuple #[v,.int .i64 k])) w':=⟨v,rfl,h⟩
theorem RetReadF.read {r:Int×Cmd}{w w':World}{e:Ending}(h:RetReadF r w e w'):RetRead r w e w':=by
 obtain⟨v,rfl,ev,vv,e,h1,h2,_,h4⟩:=h;injection e with e
 subst e;exact⟨_,rfl,⟨ev,vv,rfl,h1,h2⟩,h4⟩
theorem s_ReadF (t:List UInt8)(w:World)(hE:EnvS w)(hl:t.length≤140737488355328):Calls Tryz.prog 23 #[.string (str t)] w (RetReadF (readP t) w):=by
 obtain⟨Z,HZ⟩:∃Z,Hid (Z=readP t):=⟨_,rfl⟩;rw[← HZ.out];have HE:=hid hE;have hz:=HZ.out;unfold readP at hz;have hsz:=str_size t;have HR:=hid (Blk.new w #[.int .i64 0,.string ⟨#[]⟩,.string ⟨#[]⟩,.string ⟨#[]⟩,.int .i64 0,.int .i64 0,.slice none 0 0,.slice none 0 0] 31);have HB0:Hid (Below w.heap.size w (w.alloc (.cells #[.int .i64 0,.string ⟨#[]⟩,.string ⟨#[]⟩,.string ⟨#[]⟩,.int .i64 0,.int .i64 0,.slice none 0 0,.slice none 0 0] 31))):=by show Below _ _ _;go_grown
 clear hE HZ;go_enter Tryz.func23,Tryz.ntmps23;go_upto_region 1 with fail;generalize w.alloc (.cells #[.int .i64 0,.string ⟨#[]⟩,.string ⟨#[]⟩,.string ⟨#[]⟩,.int .i64 0,.int .i64 0,.slice none 0 0,.slice none 0 0] 31)=W0 at*
 by_cases hlong:4096<t.length
 ·rw[if_pos hlong]at hz
  have HZ:=hid hz;have hlI:(4096:Int)<((str t).size:Int):=by omega
  have lr:=HR.out.lt;obtain⟨r0,r1,r2,r3,r4,r5,r6,r7⟩:=Blk.q8 HR.out;obtain⟨g0,g1,g2,g3,g4,g5,g6,g7⟩:=Blk.z8 HR.out;clear hz hlong;go_wp2_with fail;refine bodyPost_ret (results_cellB rfl rfl (load_cmd (blk8 HR.out _ _ _ _ _ _ _ _))) rfl ?_;rw[HZ.out];exact(guess_fin (w:=w) (c:=cmd0) (ev:= .slice none 0 0) (vv:= .slice none 0 0) HR.out (Nat.le_refl _) HB0.out (EdgesR.nil _) (IntsR.nil _) (fun g e=>e.elim (fun e=>by cases e) (fun e=>by cases e))).read 19
 rw[if_neg hlong]at hz;have HZ:=hid hz;have hlI:¬(4096:Int)<((str t).size:Int):=by omega
 have HSM:=hid (guessP_sm (t:=t) (by omega));have HGU:=hid (s_guessed t W0 (HE.out.below HB0.out) (by omega));clear hz hlong;generalize guessP t=c at*
 go_wp2_with fail;refine HGU.out.mono ?_;rintro e w1 ⟨ev,vv,rfl,he,hv,hfr,hB1⟩;obtain⟨ea,ec,rfl,_⟩:=id he;obtain⟨va,vc,rfl,_⟩:=id hv;have hRW:w.heap.size<W0.heap.size:=HR.out.lt;have HVR:Hid (∀ g,(Value.slice ea c.g.es.length ec).ownBlock=some g∨(Value.slice va c.vals.length vc).ownBlock=some g→w.heap.size<g):=fun g e=>by have:=hfr g e;omega
 have HB1:=hid (up HB0.out hB1);have HR1:=hid (HR.out.below hB1);have HEV:=hid he;have HVV:=hid hv;clear he hv hfr hRW hB1 HR HB0 HGU;dsimp only;go_upto_region 4 with fail;have HC2:=hid (Blk.new w1 #[.int .i64 c.kind,.string (str c.name),.string (str c.on),.string (str c.other),.int .i64 c.q,.int .i64 c.g.n,.slice ea c.g.es.length ec,.slice va c.vals.length vc] 31);have hB2:Below w1.heap.size w1 (w1.alloc (.cells #[.int .i64 c.kind,.string (str c.name),.string (str c.on),.string (str c.other),.int .i64 c.q,.int .i64 c.g.n,.slice ea c.g.es.length ec,.slice va c.vals.length vc] 31)):=by go_grown
 have HB2:=hid (up HB1.out hB2);have HR2:=hid (HR1.out.below hB2);have HEV2:=hid (HEV.out.below hB2);have HVV2:=hid (HVV.out.below hB2);generalize w1.alloc (.cells #[.int .i64 c.kind,.string (str c.name),.string (str c.on),.string (str c.other),.int .i64 c.q,.int .i64 c.g.n,.slice ea c.g.es.length ec,.slice va c.vals.length vc] 31)=W2 at*
 generalize w1.heap.size=Cb at*
 clear hB2 HB1 HR1 HEV HVV;have HTX:=hid (fun (W:World) (h:Below W2.heap.size W2 W)=>s_Text c (.agg #[.int .i64 c.kind,.string (str c.name),.string (str c.on),.string (str c.other),.int .i64 c.q,.int .i64 c.g.n,.slice ea c.g.es.length ec,.slice va c.vals.length vc]) W ((HE.out.below HB2.out).below h).env ⟨_,_,rfl,HEV2.out.below h,HVV2.out.below h⟩ HSM.out);obtain⟨c0,c1,c2,c3,c4,c5,c6,c7⟩:=Blk.q8 HC2.out;have lc:=HC2.out.lt;have HT:=hid (HTX.out W2 (Below.refl _ _));unfold limV at HT;clear HTX;generalize hre:(textR c).1=re at*
 generalize hrs:(textR c).2=rs at*
 have HRE:=hid hre;have HRS:=hid hrs;clear hre hrs;go_wp2_with fail;refine HT.out.mono ?_;rintro e w3 ⟨rfl,hB3⟩;have HB3:=hid (up HB2.out hB3);have HC3:=hid (HC2.out.below hB3);have HR3:=hid (HR2.out.below hB3);have HEV3:=hid (HEV2.out.below hB3);have HVV3:=hid (HVV2.out.below hB3);clear hB3 HB2 HC2 HR2 HEV2 HVV2 HT c0 c1 c2 c3 c4 c5 c6 c7 lc;obtain⟨c0,c1,c2,c3,c4,c5,c6,c7⟩:=Blk.q8 HC3.out;have lc:=HC3.out.lt;have lr:=HR3.out.lt;obtain⟨r0,r1,r2,r3,r4,r5,r6,r7⟩:=Blk.q8 HR3.out;obtain⟨g0,g1,g2,g3,g4,g5,g6,g7⟩:=Blk.z8 HR3.out;have hz:=HZ.out;dsimp only;by_cases he:re=0
 case neg=>
  rw[if_pos (.inl he)]at hz;have HZ2:=hid hz;have hb:(re !=0)=true:=by simpa using he
  clear hz he;go_wp2_with fail;refine bodyPost_ret (results_cellB rfl rfl (load_cmd (blk8 HR3.out _ _ _ _ _ _ _ _))) rfl ?_;rw[HZ2.out];exact(guess_fin (w:=w) (c:=cmd0) (ev:= .slice none 0 0) (vv:= .slice none 0 0) HR3.out (Nat.le_refl _) HB3.out (EdgesR.nil _) (IntsR.nil _) (fun g e=>e.elim (fun e=>by cases e) (fun e=>by cases e))).read 4
 subst he;have hse:=str_eqb rs t;by_cases hst:rs=t
 case neg=>
  rw[if_pos (.inr hst)]at hz;have HZ2:=hid hz;have hb:(rs==t)=false:=by simpa using hst
  rw[hb]at hse;clear hz hst hb;go_wp2_with fail;refine bodyPost_ret (results_cellB rfl rfl (load_cmd (blk8 HR3.out _ _ _ _ _ _ _ _))) rfl ?_;rw[HZ2.out];exact(guess_fin (w:=w) (c:=cmd0) (ev:= .slice none 0 0) (vv:= .slice none 0 0) HR3.out (Nat.le_refl _) HB3.out (EdgesR.nil _) (IntsR.nil _) (fun g e=>e.elim (fun e=>by cases e) (fun e=>by cases e))).read 4
 rw[if_neg (fun h=>h.elim (fun h=>h rfl) fun h=>h hst)]at hz;have HZ2:=hid hz;have hb:(rs==t)=true:=by simpa using hst
 rw[hb]at hse;clear hz hst hb;go_wp2_with fail;refine bodyPost_ret (results_cellB rfl rfl (load_cmd (blk8 HR3.out _ _ _ _ _ _ _ _))) rfl ?_;rw[HZ2.out];exact(guess_fin (w:=w) (c:=c) HR3.out (Nat.le_refl _) HB3.out HEV3.out HVV3.out HVR.out).read 0
theorem s_Read (t:List UInt8)(w:World)(hE:EnvS w)(hl:t.length≤140737488355328):Calls Tryz.prog 23 #[.string (str t)] w (RetRead (readP t) w):=by
 refine(s_ReadF t w hE hl).mono ?_;exact fun e w' h=>h.read
def exL:List Cmd:=[exLet,exPut,exStab]
def exAt:Nat→Ses
 |0=>ses0
 |1=>exS1
 |2=>exS2
 |_=>exS3
theorem ex_all:allG doG 0 ses0 exL=(exS3,0,0):=by
 show(if (doG ses0 exLet).1≠0 then _ else(if (doG (doG ses0 exLet).2 exPut).1≠0 then _ else(if (doG (doG (doG ses0 exLet).2 exPut).2 exStab).1≠0 then _ else((doG (doG (doG ses0 exLet).2 exPut).2 exStab).2,(0:Int),(0:Int)))))=_;rw[ex_let,ex_put,ex_stab];rfl
theorem ex_step:∀k s,k<exL.length→s=exAt k→(doG s (exL[k]?.getD default)).1=0→(doG s (exL[k]?.getD default)).2=exAt (k+1)
 |0,s,_,h,_=>by subst h;show(doG ses0 exLet).2=_;rw[ex_let];rfl
 |1,s,_,h,_=>by subst h;show(doG exS1 exPut).2=_;rw[ex_put];rfl
 |2,s,_,h,_=>by subst h;show(doG exS2 exStab).2=_;rw[ex_stab];rfl
 |k+3,s,h,_,_=>by simp[exL]at h;omega
theorem ex_small:∀k,SmSes (exAt k)
 |0=>by simp only[exAt,SmSes,SmObs,SmLs,SmOb];decide
 |1=>by simp only[exAt,SmSes,SmObs,SmLs,SmOb];decide
 |2=>by simp only[exAt,SmSes,SmObs,SmLs,SmOb];decide
 |k+3=>by simp only[exAt,SmSes,SmObs,SmLs,SmOb];decide
theorem ex_small4:SmSes exS4:=by simp only[SmSes,SmObs,SmLs,SmOb];decide
theorem ex_smcmd:∀k,k<exL.length→SmCmd (exL[k]?.getD default)∧((exL[k]?.getD default).kind=0∨(exL[k]?.getD default).kind=1∨(exL[k]?.getD default).kind=3∨(exL[k]?.getD default).kind=7)
 |0,_=>⟨by simp only[SmCmd];decide,by decide⟩
 |1,_=>⟨by simp only[SmCmd];decide,by decide⟩
 |2,_=>⟨by simp only[SmCmd];decide,by decide⟩
 |k+3,h=>by simp[exL]at h;omega
theorem ex_find3:findErr exS3 [100]=0∧findB exS3 [100]=⟨[100],[97],⟨0,[]⟩,[0,1,1]⟩:=⟨by kernel_rfl,by kernel_rfl⟩
theorem ex_find4:findErr exS4 [100]=0∧findB exS4 [100]=⟨[100],[97],⟨0,[]⟩,[2,0,0]⟩:=⟨by kernel_rfl,by kernel_rfl⟩
theorem ex_cmds (w1:World)(ta:Option Addr)(hT:EdgesR w1 (.slice ta 3 3) triG.es):Below w1.heap.size w1 ((w1.alloc (.cells #[.int .i64 2,.int .i64 0,.int .i64 0] 3)).alloc (.cells #[.int .i64 0,.string {data:= #[97]},.string {data:= #[]},.string {data:= #[]},.int .i64 0,.int .i64 3,.slice ta 3 3,.slice none 0 0,.int .i64 1,.string {data:= #[100]},.string {data:= #[97]},.string {data:= #[]},.int .i64 0,.int .i64 0,.slice none 0 0,.slice (some ⟨w1.heap.size,0,none⟩) 3 3,.int .i64 3,.string {data:= #[100]},.string {data:= #[]},.string {data:= #[]},.int .i64 1,.int .i64 0,.slice none 0 0,.slice none 0 0] 31))∧CmsR ((w1.alloc (.cells #[.int .i64 2,.int .i64 0,.int .i64 0] 3)).alloc (.cells #[.int .i64 0,.string {data:= #[97]},.string {data:= #[]},.string {data:= #[]},.int .i64 0,.int .i64 3,.slice ta 3 3,.slice none 0 0,.int .i64 1,.string {data:= #[100]},.string {data:= #[97]},.string {data:= #[]},.int .i64 0,.int .i64 0,.slice none 0 0,.slice (some ⟨w1.heap.size,0,none⟩) 3 3,.int .i64 3,.string {data:= #[100]},.string {data:= #[]},.string {data:= #[]},.int .i64 1,.int .i64 0,.slice none 0 0,.slice none 0 0] 31)) (.slice (some ⟨w1.heap.size+1,0,none⟩) 3 3) exL:=by
 have hB:Below w1.heap.size w1 ((w1.alloc (.cells #[.int .i64 2,.int .i64 0,.int .i64 0] 3)).alloc (.cells #[.int .i64 0,.string {data:= #[97]},.string {data:= #[]},.string {data:= #[]},.int .i64 0,.int .i64 3,.slice ta 3 3,.slice none 0 0,.int .i64 1,.string {data:= #[100]},.string {data:= #[97]},.string {data:= #[]},.int .i64 0,.int .i64 0,.slice none 0 0,.slice (some ⟨w1.heap.size,0,none⟩) 3 3,.int .i64 3,.string {data:= #[100]},.string {data:= #[]},.string {data:= #[]},.int .i64 1,.int .i64 0,.slice none 0 0,.slice none 0 0] 31)):=by go_grown
 have h1:=(Blk.new w1 #[.int .i64 2,.int .i64 0,.int .i64 0] 3).alloc (.cells #[.int .i64 0,.string {data:= #[97]},.string {data:= #[]},.string {data:= #[]},.int .i64 0,.int .i64 3,.slice ta 3 3,.slice none 0 0,.int .i64 1,.string {data:= #[100]},.string {data:= #[97]},.string {data:= #[]},.int .i64 0,.int .i64 0,.slice none 0 0,.slice (some ⟨w1.heap.size,0,none⟩) 3 3,.int .i64 3,.string {data:= #[100]},.string {data:= #[]},.string {data:= #[]},.int .i64 1,.int .i64 0,.slice none 0 0,.slice none 0 0] 31);have h2:=Blk.new (w1.alloc (.cells #[.int .i64 2,.int .i64 0,.int .i64 0] 3)) #[.int .i64 0,.string {data:= #[97]},.string {data:= #[]},.string {data:= #[]},.int .i64 0,.int .i64 3,.slice ta 3 3,.slice none 0 0,.int .i64 1,.string {data:= #[100]},.string {data:= #[97]},.string {data:= #[]},.int .i64 0,.int .i64 0,.slice none 0 0,.slice (some ⟨w1.heap.size,0,none⟩) 3 3,.int .i64 3,.string {data:= #[100]},.string {data:= #[]},.string {data:= #[]},.int .i64 1,.int .i64 0,.slice none 0 0,.slice none 0 0] 31
 rw[World.size_alloc]at h2;refine⟨hB,_,_,_,rfl,Nat.le_refl _,by decide,by decide,.inr ⟨w1.heap.size+1,0,rfl,h2.lt,fun i hi=>by rw[Nat.zero_add,h2.cell i,List.getElem?_toArray]⟩,rfl,fun k hk=> ?_⟩;match k,hk with
 |0,_=>exact⟨_,_,rfl,hT.below hB,IntsR.nil _⟩
 |1,_=>
  refine⟨_,_,rfl,EdgesR.nil _,⟨_,_,rfl,Nat.le_refl _,by decide,by decide,.inr ⟨w1.heap.size,0,rfl,h1.lt,fun i hi=>by rw[Nat.zero_add,h1.cell i,List.getElem?_toArray];rfl⟩⟩⟩
 |2,_=>exact⟨_,_,rfl,EdgesR.nil _,IntsR.nil _⟩
 |k+3,h=>simp[exL]at h;omega
theorem IntsR.put3 {w:World}{g:Nat}{v v0 v1 v2:Value}{l:List Int}{T:TypeId}(h:IntsR w v l)(hb:Blk w g #[v0,v1,v2] T)(h0:∃a n c,v0= .slice a n c)(h1:∃a n c,v1= .slice a n c)(h2:∃a n c,v2= .slice a n c)(y0 y1 y2:Value):
 IntsR (((w.setCell ⟨g,0,none⟩ y0).setCell ⟨g,1,none⟩ y1).setCell ⟨g,2,none⟩ y2) v l:=
 ((h.outS (Slc.blk hb h0 h1 h2)).sub ((subX_set w g 0 y0).trans ((subX_set _ g 1 y1).trans (subX_set _ g 2 y2))).mask).sub (sub_unmask _ _)
theorem ints_new3 (w:World)(a b c:Int):IntsR (w.alloc (.cells #[.int .i64 a,.int .i64 b,.int .i64 c] 3)) (.slice (some ⟨w.heap.size,0,none⟩) 3 3) [a,b,c]:=
 ⟨_,_,rfl,Nat.le_refl _,by decide,by simp,.inr ⟨w.heap.size,0,rfl,by simp,fun i hi=>by rw[Nat.zero_add,(Blk.new w _ _).cell i,List.getElem?_toArray];rfl⟩⟩
theorem eq_new3 (a b c:Int)(av:Value)(w:World)(ha:IntsR w av [a,b,c]):
 Calls Tryz.prog 52 #[av,.slice (some ⟨w.heap.size,0,none⟩) 3 3] (w.alloc (.cells #[.int .i64 a,.int .i64 b,.int .i64 c] 3)) fun e w'=>e= .returned (.bool true)∧Below w.heap.size w w':=by
 have hB:Below w.heap.size w (w.alloc (.cells #[.int .i64 a,.int .i64 b,.int .i64 c] 3)):=by go_grown
 refine(c_EqualD [a,b,c] [a,b,c] _ _ _ (ha.below hB) (ints_new3 w a b c)).mono ?_;rintro e w' ⟨rfl,h⟩;exact⟨by simp,up hB h⟩
def exT:List (List UInt8):=[[108,101,116,32,97,32,103,114,97,112,104,32,51,58,32,48,45,49,32,48,45,50,32,49,45,50],[112,117,116,32,100,32,111,110,32,97,32,50,32,48,32,48],[115,116,97,98,105,108,105,122,101,32,100,32,97,116,32,49]]
theorem ex_texts:∀k,k<exL.length→textR (exL[k]?.getD default)=(0,exT[k]?.getD [])
 |0,_=>by kernel_rfl
 |1,_=>by kernel_rfl
 |2,_=>by kernel_rfl
 |k+3,h=>by simp[exL]at h;omega
theorem ex_textl:∀k:Nat,(exT[k]?.getD []).length≤100
 |0=>by decide
 |1=>by decide
 |2=>by decide
 |k+3=>by simp[exT]
theorem l_awakeS (w:World)(hE:EnvS w):Calls Tryz.prog 15 #[] w fun e w'=>e= .returned (.bool true)∧Below w.heap.size w w':=by
 have HE:=hid hE;clear hE;go_enter Tryz.func15,Tryz.ntmps15;go_wp2_with fail;refine(l_Tri _).mono ?_;rintro e w1 ⟨ta,rfl,hT,hB1⟩;obtain⟨hB2,hC2⟩:=ex_cmds w1 ta hT;have HB2:=hid (up hB1 hB2);have HC2:=hid hC2;clear hB1 hT hC2;dsimp only;go_upto_region 2 with fail;generalize ((w1.alloc (.cells #[.int .i64 2,.int .i64 0,.int .i64 0] 3)).alloc (.cells #[.int .i64 0,.string {data:= #[97]},.string {data:= #[]},.string {data:= #[]},.int .i64 0,.int .i64 3,.slice ta 3 3,.slice none 0 0,.int .i64 1,.string {data:= #[100]},.string {data:= #[97]},.string {data:= #[]},.int .i64 0,.int .i64 0,.slice none 0 0,.slice (some ⟨w1.heap.size,0,none⟩) 3 3,.int .i64 3,.string {data:= #[100]},.string {data:= #[]},.string {data:= #[]},.int .i64 1,.int .i64 0,.slice none 0 0,.slice none 0 0] 31))=W2 at*
 generalize w1.heap.size+1=Lb at*
 clear hB2;have HAL:=hid (s_All exL _ doG (fun k s=>s=exAt k) W2 HC2.out (by decide) rfl ex_step (fun W sv cv k s hk hB hs hc hI=>by subst hI;exact s_DoG _ _ _ _ W hs hc (ex_small k) (ex_smcmd k hk).1 (ex_smcmd k hk).2));rw[ex_all]at HAL;go_wp2_with fail;refine HAL.out.mono ?_;rintro e w3 ⟨oa,oc,pa,pc,fa,fc,rfl,hS3,hp3,hf3,hB3⟩;have HSR3:Hid (SesR w3 (.agg #[.slice oa 2 oc,.slice pa 3 pc,.slice fa 0 fc]) exS3):=hS3;have HW3:=hid hB3;clear hS3 hp3 hf3 hB3 HAL;have e1:exS3.obs.length=2:=rfl;have e2:exS3.past.length=3:=rfl;have e3:exS3.fut.length=0:=rfl;dsimp only;go_upto_region 3 with fail;clear e1 e2 e3
 have HS4:=hid (Blk.new w3 #[.slice oa 2 oc,.slice pa 3 pc,.slice fa 0 fc] 25);have hB4:Below w3.heap.size w3 (w3.alloc (.cells #[.slice oa 2 oc,.slice pa 3 pc,.slice fa 0 fc] 25)):=by go_grown
 have HW4:=hid (up HW3.out hB4);have HSR4:=hid (HSR3.out.below hB4);have hSb:W2.heap.size≤w3.heap.size:=HW3.out.size;generalize w3.alloc (.cells #[.slice oa 2 oc,.slice pa 3 pc,.slice fa 0 fc] 25)=W4 at*
 generalize w3.heap.size=Sb at*
 have HSB:=hid hSb;clear hB4 HW3 HSR3 hSb;have ls:=HS4.out.lt;have s0:=HS4.out.cell 0;have s1:=HS4.out.cell 1;have s2:=HS4.out.cell 2;simp only[xG,xH,xI]at s0 s1 s2;have HF:=hid (s_Find exS3 _ [100] W4 HSR4.out (ex_small 3));unfold RetFind at HF;rw[ex_find3.1,ex_find3.2]at HF;go_wp2_with fail;refine HF.out.mono ?_;rintro e w5 ⟨v,rfl,⟨ev,dv,rfl,he,hd⟩,hB5⟩;obtain⟨ea,ec,rfl,_⟩:=id he;obtain⟨da,dc,rfl,_⟩:=id hd;have HD5:Hid (IntsR w5 (.slice da 3 dc) [0,1,1]):=hd;have HW5:=hid (up HW4.out hB5);have HSR5:=hid (HSR4.out.below hB5);have HS5:=hid (HS4.out.below hB5);clear he hd hB5 HF HW4 HSR4 HS4 ls s0 s1 s2
 dsimp only;go_upto_region 4 with fail;have HX6:=hid (Blk.new w5 #[.string (str [100]),.string (str [97]),.int .i64 0,.slice ea 0 ec,.slice da 3 dc] 67);have hB6:Below w5.heap.size w5 (w5.alloc (.cells #[.string (str [100]),.string (str [97]),.int .i64 0,.slice ea 0 ec,.slice da 3 dc] 67)):=by go_grown
 have HW6:=hid (up HW5.out hB6);have HSR6:=hid (HSR5.out.below hB6);have HS6:=hid (HS5.out.below hB6);have HD6:=hid (HD5.out.below hB6);have hXS:Sb<w5.heap.size:=HS5.out.lt;generalize w5.alloc (.cells #[.string (str [100]),.string (str [97]),.int .i64 0,.slice ea 0 ec,.slice da 3 dc] 67)=W6 at*
 generalize w5.heap.size=Xb at*
 have HXS:=hid hXS;clear hB6 HW5 HSR5 HS5 HD5 hXS;have ls:=HS6.out.lt;have s0:=HS6.out.cell 0;have s1:=HS6.out.cell 1;have s2:=HS6.out.cell 2;simp only[xG,xH,xI]at s0 s1 s2;have HDO:=hid (s_DoG exS3 exUndo _ (.agg #[.int .i64 7,.string {data:= #[]},.string {data:= #[]},.string {data:= #[]},.int .i64 0,.int .i64 0,.slice none 0 0,.slice none 0 0]) W6 HSR6.out ⟨_,_,rfl,EdgesR.nil _,IntsR.nil _⟩ (ex_small 3) (by simp only[SmCmd];decide) (.inr (.inr (.inr rfl))));rw[ex_undo]at HDO;go_wp2_with fail;refine HDO.out.mono ?_;rintro e w7 ⟨na,nc,pa2,pc2,fa2,fc2,rfl,hS7,hp7,hf7,hB7⟩;have HSR7:Hid (SesR w7 (.agg #[.slice na 2 nc,.slice pa2 2 pc2,.slice fa2 1 fc2]) exS4):=hS7
 have HP7:Hid (∀ g,(Value.slice pa2 2 pc2).ownBlock=some g→W6.heap.size≤g):=hp7;have HF7:Hid (∀ g,(Value.slice fa2 1 fc2).ownBlock=some g→W6.heap.size≤g):=hf7;have HSL:Hid (Sb<W6.heap.size):=ls;have HW7:=hid (up HW6.out hB7);have HS7:=hid (HS6.out.below hB7);have HX7:=hid (HX6.out.below hB7);have HD7:=hid (HD6.out.below hB7);clear hS7 hp7 hf7 hB7 HDO HW6 HSR6 HS6 HX6 HD6 ls s0 s1 s2;have e1:exS4.obs.length=2:=rfl;have e2:exS4.past.length=2:=rfl;have e3:exS4.fut.length=1:=rfl;have ls:=HS7.out.lt;have s0:=HS7.out.cell 0;have s1:=HS7.out.cell 1;have s2:=HS7.out.cell 2;have f0:=HS7.out.frozen 0;have f1:=HS7.out.frozen 1
 have f2:=HS7.out.frozen 2;simp only[xG,xH,xI]at s0 s1 s2;dsimp only;go_upto_region 5 with fail;clear e1 e2 e3 ls s0 s1 s2 f0 f1 f2;have HSR8:=hid (HSR7.out.put3 (Slc.blk HS7.out ⟨_,_,_,rfl⟩ ⟨_,_,_,rfl⟩ ⟨_,_,_,rfl⟩) (fun g e=>by have:=HP7.out g e;have:=HSL.out;omega) (fun g e=>by have:=HF7.out g e;have:=HSL.out;omega) (.slice na 2 nc) (.slice pa2 2 pc2) (.slice fa2 1 fc2));have HS8:=hid (blk3 HS7.out (.slice na 2 nc) (.slice pa2 2 pc2) (.slice fa2 1 fc2));have hne:Xb≠Sb:=by have:=HXS.out;omega
 have HX8:=hid (((HX7.out.other hne 0 (.slice na 2 nc)).other hne 1 (.slice pa2 2 pc2)).other hne 2 (.slice fa2 1 fc2));have HD8:=hid (HD7.out.put3 HS7.out ⟨_,_,_,rfl⟩ ⟨_,_,_,rfl⟩ ⟨_,_,_,rfl⟩ (.slice na 2 nc) (.slice pa2 2 pc2) (.slice fa2 1 fc2));have HW8:=hid (below3 HW7.out HSB.out (.slice na 2 nc) (.slice pa2 2 pc2) (.slice fa2 1 fc2));generalize ((w7.setCell ⟨Sb,0,none⟩ (.slice na 2 nc)).setCell ⟨Sb,1,none⟩ (.slice pa2 2 pc2)).setCell ⟨Sb,2,none⟩ (.slice fa2 1 fc2)=W8 at*
 clear hne HSR7 HS7 HX7 HD7 HW7 HP7 HF7 HSL;have ls:=HS8.out.lt;have s0:=HS8.out.cell 0;have s1:=HS8.out.cell 1;have s2:=HS8.out.cell 2;simp only[xG,xH,xI]at s0 s1 s2;have HF:=hid (s_Find exS4 _ [100] W8 HSR8.out ex_small4);unfold RetFind at HF;rw[ex_find4.1,ex_find4.2]at HF;go_wp2_with fail;refine HF.out.mono ?_;rintro e w9 ⟨v,rfl,⟨ev,dv,rfl,he,hd⟩,hB9⟩;obtain⟨ya,yc,rfl,_⟩:=id he;obtain⟨za,zc,rfl,_⟩:=id hd;have HE9:Hid (IntsR w9 (.slice za 3 zc) [2,0,0]):=hd;have HW9:=hid (up HW8.out hB9);have HX9:=hid (HX8.out.below hB9);have HD9:=hid (HD8.out.below hB9);clear he hd hB9 HF HW8 HSR8 HS8 HX8 HD8 ls s0 s1 s2
 dsimp only;go_upto_region 6 with fail;have HY10:=hid (Blk.new w9 #[.string (str [100]),.string (str [97]),.int .i64 0,.slice ya 0 yc,.slice za 3 zc] 67);have hB10:Below w9.heap.size w9 (w9.alloc (.cells #[.string (str [100]),.string (str [97]),.int .i64 0,.slice ya 0 yc,.slice za 3 zc] 67)):=by go_grown
 have HW10:=hid (up HW9.out hB10);have HX10:=hid (HX9.out.below hB10);have HD10:=hid (HD9.out.below hB10);have HE10:=hid (HE9.out.below hB10);generalize w9.alloc (.cells #[.string (str [100]),.string (str [97]),.int .i64 0,.slice ya 0 yc,.slice za 3 zc] 67)=W10 at*
 generalize w9.heap.size=Yb at*
 clear hB10 HW9 HX9 HD9 HE9;have lx:=HX10.out.lt;have x4:=HX10.out.cell 4;simp only[xG,xH,xI]at x4;go_wp2_with fail;refine(eq_new3 0 1 1 _ W10 HD10.out).mono ?_;rintro e w11 ⟨rfl,hB11⟩;have HW11:=hid (up HW10.out hB11);have HY11:=hid (HY10.out.below hB11);have HE11:=hid (HE10.out.below hB11);clear hB11 HW10 HX10 HD10 HE10 HY10 lx x4;have ly:=HY11.out.lt;have y4:=HY11.out.cell 4;simp only[xG,xH,xI]at y4;dsimp only;go_wp2_with fail;refine(eq_new3 2 0 0 _ w11 HE11.out).mono ?_;rintro e w12 ⟨rfl,hB12⟩;have HW12:=hid (up HW11.out hB12);have HY12:=hid (HY11.out.below hB12);clear hB12 HW11 HE11 HY11 ly y4
 have ly:=HY12.out.lt;have y1:w12.cell? ⟨Yb,1,none⟩=some (.string {data:= #[97]}):=(HY12.out.cell 1).trans rfl;dsimp only;go_upto_region 8 with fail;go_wp2_with fail;have HT13:=hid (Blk.new w12 #[.string {data:= #[108,101,116,32,97,32,103,114,97,112,104,32,51,58,32,48,45,49,32,48,45,50,32,49,45,50]},.string {data:= #[112,117,116,32,100,32,111,110,32,97,32,50,32,48,32,48]},.string {data:= #[115,116,97,98,105,108,105,122,101,32,100,32,97,116,32,49]}] 9);have hB13:Below w12.heap.size w12 (w12.alloc (.cells #[.string {data:= #[108,101,116,32,97,32,103,114,97,112,104,32,51,58,32,48,45,49,32,48,45,50,32,49,45,50]},.string {data:= #[112,117,116,32,100,32,111,110,32,97,32,50,32,48,32,48]},.string {data:= #[115,116,97,98,105,108,105,122,101,32,100,32,97,116,32,49]}] 9)):=by go_grown
 have HW13:=hid (up HW12.out hB13);generalize w12.alloc (.cells #[.string {data:= #[108,101,116,32,97,32,103,114,97,112,104,32,51,58,32,48,45,49,32,48,45,50,32,49,45,50]},.string {data:= #[112,117,116,32,100,32,111,110,32,97,32,50,32,48,32,48]},.string {data:= #[115,116,97,98,105,108,105,122,101,32,100,32,97,116,32,49]}] 9)=W13 at*
 generalize w12.heap.size=Tb at*
 clear hB13 HW12 HY12 ly y1;go_loopw [73] (fun i wr=>∃k:Nat,k≤3∧i= .int .i64 k∧Hid (Below W13.heap.size W13 wr)) (fun i _=>3-(intOf i).toNat);case atStart=>exact⟨0,Nat.zero_le _,rfl,Below.refl _ _⟩
 case round=>
  obtain⟨k,hk,rfl,HB⟩:=hrel;obtain⟨Wr,rfl⟩:∃W:World,W=wr:=⟨_,rfl⟩;have HWr:=hid (up HW13.out HB.out);have HEr:=hid (HE.out.below (up HB2.out HWr.out));by_cases hlt:k<3
  ·have hlt':(k:Int)<3:=by omega
   have hk0:(0:Int)≤(k:Int):=by omega
   have hkl:k<exL.length:=hlt;obtain⟨b,off,ea,ec,va,vc,eb,hb2,hb,c0,c1,c2,c3,c4,c5,c6,c7,he,hv⟩:=HC2.out.atB HWr.out k hkl;injection eb with eb
   injection eb with eb1 eb2
   subst eb1 eb2;simp only[Nat.zero_add]at c0 c1 c2 c3 c4 c5 c6 c7;have HCC:=hid (fun (W:World) (h:Below W2.heap.size W2 W)=>HC2.out.atB h k hkl);have htx:=ex_texts k hkl;have htl:=ex_textl k;have hsm:=(ex_smcmd k hkl).1;have hck:Wr.cell? ⟨Tb,k,none⟩=some (.string (str (exT[k]?.getD []))):=by
    rw[(HT13.out.below HB.out).cell k];match k,hlt with
    |0,_=>rfl
    |1,_=>rfl
    |2,_=>rfl
   have hTl:=(HT13.out.below HB.out).lt;have HEV:=hid he;have HVV:=hid hv;clear he hv hkl;generalize exL[k]?.getD default=c at*
   generalize exT[k]?.getD []=tx at*
   have HRD:=hid (readP_text (c:=c) (by rw[htx]));rw[htx]at HRD;have HTX:=hid (s_Text c (.agg #[.int .i64 c.kind,.string (str c.name),.string (str c.on),.string (str c.other),.int .i64 c.q,.int .i64 c.g.n,.slice ea c.g.es.length ec,.slice va c.vals.length vc]) Wr HEr.out.env ⟨_,_,rfl,HEV.out.below HWr.out,HVV.out.below HWr.out⟩ hsm);rw[htx]at HTX;unfold limV at HTX;have HTL:=hid htl;clear htx hsm htl;go_wp2_with fail;refine HTX.out.mono ?_;rintro e w14 ⟨rfl,hB14⟩;have HB14:=hid (up HB.out hB14);have HW14:=hid (up HWr.out hB14);clear HTX hB14 c0 c1 c2 c3 c4 c5 c6 c7 hck hTl hb;dsimp only;go_wp2_with fail
   have HRE:=hid (s_Read tx w14 (HE.out.below (up HB2.out HW14.out)) (by have:=HTL.out;omega));unfold RetRead at HRE;have hrd:readP tx=(0,c):=HRD.out;rw[hrd]at HRE;clear hrd;refine HRE.out.mono ?_;rintro e w15 ⟨v,rfl,hc15,hB15⟩;obtain⟨ra,rc,qa,qc,rfl,hre,hrv⟩:=hc15.form;have HRE15:=hid hre;have HRV15:=hid hrv;have HB15:=hid (up HB14.out hB15);have HW15:=hid (up HW14.out hB15);clear HRE hB15 hc15 hre hrv HB14 HW14;dsimp only;go_upto_region 13 with fail;have HN16:=hid (Blk.new w15 #[.int .i64 c.kind,.string (str c.name),.string (str c.on),.string (str c.other),.int .i64 c.q,.int .i64 c.g.n,.slice ra c.g.es.length rc,.slice qa c.vals.length qc] 31)
   have hB16:Below w15.heap.size w15 (w15.alloc (.cells #[.int .i64 c.kind,.string (str c.name),.string (str c.on),.string (str c.other),.int .i64 c.q,.int .i64 c.g.n,.slice ra c.g.es.length rc,.slice qa c.vals.length qc] 31)):=by go_grown
   have HB16:=hid (up HB15.out hB16);have HW16:=hid (up HW15.out hB16);have HRE16:=hid (HRE15.out.below hB16);have HRV16:=hid (HRV15.out.below hB16);generalize w15.alloc (.cells #[.int .i64 c.kind,.string (str c.name),.string (str c.on),.string (str c.other),.int .i64 c.q,.int .i64 c.g.n,.slice ra c.g.es.length rc,.slice qa c.vals.length qc] 31)=W16 at*
   generalize w15.heap.size=Rb at*
   clear hB16 HB15 HW15 HRE15 HRV15;obtain⟨b',off',ea',ec',va',vc',eb,_,lb,c0,c1,c2,c3,c4,c5,c6,c7,he',hv'⟩:=HCC.out W16 HW16.out;injection eb with eb
   injection eb with eb1 eb2
   subst eb1 eb2;simp only[Nat.zero_add]at c0 c1 c2 c3 c4 c5 c6 c7;have HEV':=hid he';have HVV':=hid hv';clear he' hv' HCC;have lr:=HN16.out.lt;have r0:=HN16.out.cell 0;have r1:=HN16.out.cell 1;have r2:=HN16.out.cell 2;have r3:=HN16.out.cell 3;have r4:=HN16.out.cell 4;have r5:=HN16.out.cell 5;have r6:=HN16.out.cell 6;have r7:=HN16.out.cell 7;simp only[xG,xH,xI]at r0 r1 r2 r3 r4 r5 r6 r7;let S:World→Prop:=fun w'=>Below W16.heap.size W16 w'
   (refine wp_region_pre 2 15 [0,1,2,3,4,5,6,7,8,9,11,12,13] [10,14] S (by kernel_rfl) (by kernel_rfl) (by intro _ _ d _ _ h;cases d<;>exact h) ?_;simp only[xA,xB,xC,xD,xE,xF]);(repeat ((refine' wpSeq_take rfl _ (by rfl) ?_ ?_;rotate_left;focus(intro w' hS;(try dsimp only at hS);skip;go_simp;(first|done|with_reducible rfl));(try go_frame));(try go_frame)));refine wpSeq_nil ⟨Below.drew (Below.refl _ _),?_⟩;(repeat ((refine' wpSeq_take rfl _ (by rfl) ?_ ?_;rotate_left;focus(intro w' hS;(try dsimp only at hS);have q0:w'.cell? ⟨Rb,0,none⟩=_:=(Below.cell hS (p:=⟨Rb,0,none⟩) lr).trans r0;have q1:w'.cell? ⟨Rb,1,none⟩=_:=(Below.cell hS (p:=⟨Rb,1,none⟩) lr).trans r1;have q2:w'.cell? ⟨Rb,2,none⟩=_:=(Below.cell hS (p:=⟨Rb,2,none⟩) lr).trans r2;have q3:w'.cell? ⟨Rb,3,none⟩=_:=(Below.cell hS (p:=⟨Rb,3,none⟩) lr).trans r3;have q4:w'.cell? ⟨Rb,4,none⟩=_:=(Below.cell hS (p:=⟨Rb,4,none⟩) lr).trans r4;have q5:w'.cell? ⟨Rb,5,none⟩=_:=(Below.cell hS (p:=⟨Rb,5,none⟩) lr).trans r5;have q6:w'.cell? ⟨Rb,6,none⟩=_:=(Below.cell hS (p:=⟨Rb,6,none⟩) lr).trans r6;have q7:w'.cell? ⟨Rb,7,none⟩=_:=(Below.cell hS (p:=⟨Rb,7,none⟩) lr).trans r7;have p0:w'.cell? ⟨Lb,k*8,none⟩=_:=(Below.cell hS (p:=⟨Lb,k*8,none⟩) lb).trans c0;have p1:w'.cell? ⟨Lb,k*8+1,none⟩=_:=(Below.cell hS (p:=⟨Lb,k*8+1,none⟩) lb).trans c1;have p2:w'.cell? ⟨Lb,k*8+2,none⟩=_:=(Below.cell hS (p:=⟨Lb,k*8+2,none⟩) lb).trans c2;have p3:w'.cell? ⟨Lb,k*8+3,none⟩=_:=(Below.cell hS (p:=⟨Lb,k*8+3,none⟩) lb).trans c3;have p4:w'.cell? ⟨Lb,k*8+4,none⟩=_:=(Below.cell hS (p:=⟨Lb,k*8+4,none⟩) lb).trans c4;have p5:w'.cell? ⟨Lb,k*8+5,none⟩=_:=(Below.cell hS (p:=⟨Lb,k*8+5,none⟩) lb).trans c5;have p6:w'.cell? ⟨Lb,k*8+6,none⟩=_:=(Below.cell hS (p:=⟨Lb,k*8+6,none⟩) lb).trans c6;have p7:w'.cell? ⟨Lb,k*8+7,none⟩=_:=(Below.cell hS (p:=⟨Lb,k*8+7,none⟩) lb).trans c7;go_simp;(first|done|with_reducible rfl));(try go_frame));(try go_frame)))
   refine wpSeq_nil ?_;clear S;go_wp2_with fail;refine(q_SameCmd c _ _ _ ⟨_,_,rfl,HRE16.out.below (Below.drew (Below.refl _ _)),HRV16.out.below (Below.drew (Below.refl _ _))⟩ ⟨_,_,rfl,(HEV'.out.below HW16.out).below (Below.drew (Below.refl _ _)),(HVV'.out.below HW16.out).below (Below.drew (Below.refl _ _))⟩).mono ?_;rintro e w17 ⟨rfl,hB17⟩;have HB17:=hid (up HB16.out (up (Below.drew (Below.refl _ _)) hB17));clear hB17;dsimp only;go_wp2_with fail;go_roundw;case rel=>exact⟨k+1,by omega,by go_num,HB17⟩
   case measure=>simp[intOf];omega
  ·obtain rfl:k=3:=by omega
   have S0:=hid (s_Sum [] Wr (by decide));go_wp2_with fail;refine S0.out.mono ?_;rintro e w14 ⟨rfl,hB14⟩;have HW14:=hid (up HWr.out hB14);rw[ex_sum0];clear hB14;dsimp only;have S1:=hid (s_Sum [97] w14 (by decide));go_wp2_with fail;refine S1.out.mono ?_;rintro e w15 ⟨rfl,hB15⟩;have HW15:=hid (up HW14.out hB15);rw[ex_sum1];clear hB15;dsimp only;have S2:=hid (s_Sum [117,110,100,111] w15 (by decide));go_wp2_with fail;refine S2.out.mono ?_;rintro e w16 ⟨rfl,hB16⟩;rw[ex_sum2];dsimp only;go_wp2_with fail;go_ret;exact⟨rfl,up HB2.out (up HW15.out hB16)⟩
end Go.Proofs.YtclgllmipcbagaaGreatDoor
namespace Go.Proofs.YtclgllmipcbagaaGreatDoor
set_option linter.unusedVariables false
set_option linter.unusedSimpArgs false
set_option maxRecDepth 100000
set_option maxHeartbeats 16000000
open Go.ChangeShapes Go.WideShapes Go.ChangeAt Go.RowKit Go.Deep Go.Joins
theorem cells_Edge:Tryz.prog.cellsOf 150=3:=by kernel_rfl
theorem cells_int:Tryz.prog.cellsOf 3=1:=by kernel_rfl
theorem bytes_Edge:Tryz.prog.bytesOf 150=24:=by kernel_rfl
theorem bytes_int:Tryz.prog.bytesOf 3=8:=by kernel_rfl
theorem und_int:Tryz.prog.underlying 3=some (.int .i64):=by kernel_rfl
theorem und_Edges:Tryz.prog.underlying 26=some (.slice 150):=by kernel_rfl
theorem und_Div:Tryz.prog.underlying 65=some (.slice 3):=by kernel_rfl
theorem und_Ints:Tryz.prog.underlying 29=some (.slice 3):=by kernel_rfl
theorem law_lt {w:World}{a:Addr}{v:Value}(h:w.cell? a=some v):a.block<w.heap.size:=by
 rcases Nat.lt_or_ge a.block w.heap.size with h'|h'
 ·exact h'
 ·simp[World.cell?,Array.getElem?_eq_none h']at h
theorem cellsAt_of (w:World)(a:Addr)(n k:Nat)(xs:List Value)(hk:0<k)(hn:xs.length=n*k)(h:∀i,i<n→∀j,j<k→w.cell? (a.add (i*k+j))=xs[i*k+j]?):CellsAt w (some a) xs:=by
 by_cases hx:xs=[]
 ·exact .inl hx
 have hpos:0<xs.length:=List.length_pos_iff.2 hx;have hn0:0<n:=by rcases Nat.eq_zero_or_pos n with h0|h0<;>simp_all
 have h00:=h 0 hn0 0 hk;rw[show (0*k+0:Nat)=0 by omega,List.getElem?_eq_getElem hpos]at h00;have hsp:=World.cell?_spot h00;have hlt:=law_lt h00;obtain⟨b,off,spot⟩:=a;simp[Addr.add]at hsp hlt;subst hsp;refine .inr ⟨b,off,rfl,hlt,fun i hi=> ?_⟩;have e1:i/k*k+i%k=i:=by rw[Nat.mul_comm];exact Nat.div_add_mod i k
 have:=h (i/k) (by rw[hn]at hi;exact Nat.div_lt_of_lt_mul (by rw[Nat.mul_comm];exact hi)) (i%k) (Nat.mod_lt _ hk);rw[e1]at this;rw[← this];congr 1;unfold Addr.add;split<;>simp_all
section
variable {H : Type} {enc : TypeId × Value → H} {W : World} {base : Nat} {held : Bool}
theorem list3 {α:Type}{l:List α}(h:l.length=3):∃x y z,l=[x,y,z]:=by
 match l,h with
 |[x,y,z],_=>exact⟨x,y,z,rfl⟩
theorem struct_edge:∃f0 f1 f2:Field,Tryz.prog.underlying 150=some (.struct #[f0,f1,f2])∧f0.type=3∧f1.type=3∧f2.type=3∧f0.offset=0∧f1.offset=1∧f2.offset=2:=
 ⟨_,_,_,Tryz.underlying150,rfl,rfl,rfl,rfl,rfl,rfl⟩
theorem reads_edges {fuel:Nat}{v:Value}{y:DataW H×List MemPlace}(h:DataW.trod enc Tryz.prog W base (fun _=>true) held fuel 26 [v]=some y)
 (hs:(y.1.weights Tryz.prog 26).all (· ≤reachBytes)=true):∃es,EdgesR W v es:=by
 rcases open_slice und_Edges h with ⟨hcs,rfl⟩|⟨a,len,cap,m,n,D,Pl,hcs,_,hl,hm,hmm,rfl,hx⟩
 ·simp at hcs
  subst hcs;exact⟨[],none,0,rfl,Nat.le_refl _,by omega,by decide,.inl rfl⟩
 ·simp at hcs
  subst hcs;simp only[if_true]at hmm;subst hmm;obtain⟨f0,f1,f2,hu,t0,t1,t2,o0,o1,o2⟩:=struct_edge;have each:∀i,i<m→∃x:E,∀j,j<3→W.cell? (a.add (i*3+j))=x.cells[j]? :=by
   intro i hi;obtain⟨cs',h1,h2⟩:=hx i hi;rw[cells_Edge]at h1;obtain⟨_,hlen,hcell⟩:=World.cells?_some h1;obtain⟨xs,k,_,_,_,hxl,hf⟩:=DataW.trod_struct hu h2;obtain⟨y0,y1,y2,rfl⟩:=list3 hxl;obtain⟨v0,v1,v2,rfl⟩:=list3 hlen
   focus
    have g0:=hf 0 f0 rfl
    have g1:=hf 1 f1 rfl
    have g2:=hf 2 f2 rfl
    simp[o0,o1,o2,t0,t1,t2,cells_int]at g0 g1 g2
    obtain⟨n0,e0,_⟩:=DataW.trod_int und_int g0
    obtain⟨n1,e1,_⟩:=DataW.trod_int und_int g1
    obtain⟨n2,e2,_⟩:=DataW.trod_int und_int g2
    simp at e0 e1 e2
    subst e0 e1 e2
    refine⟨⟨n0,n1,n2⟩,fun j hj=> ?_⟩
    rw[← add_add,hcell j hj]
    rfl
  obtain⟨q,hq⟩:=choose_lt (α:=E) each;refine⟨(List.range len).map q,some a,m,by simp,by simpa using hl,by unfold maxLen at hm;omega,?_,?_⟩
  ·have hw:(len+(m-len))*24≤reachBytes:=by
    have:=List.all_eq_true.1 hs ((len+(m-len))*24) (by simp[DataW.weights,bytes_Edge]);simpa using this
   have:=reachBytes_lt;simp;omega
  ·refine cellsAt_of W a len 3 _ (by decide) ?_ fun i hi j hj=> ?_
   ·have:∀l:List Nat,((l.map q).flatMap E.cells).length=l.length*3:=by
     intro l;induction l with
     |nil=>rfl
     |cons x l ih=>simp only[xA,List.flatMap_cons,List.length_append,ih,List.length_cons];simp[E.cells];omega
    rw[this];simp
   ·rw[hq i (by omega) j hj,flat_get _ i (by simpa using hi) j hj]
    simp[hi]
theorem reads_ints {t:TypeId}(ht:Tryz.prog.underlying t=some (.slice 3)){fuel:Nat}{v:Value}{y:DataW H×List MemPlace}(h:DataW.trod enc Tryz.prog W base (fun _=>true) held fuel t [v]=some y)
 (hs:(y.1.weights Tryz.prog t).all (· ≤reachBytes)=true):∃l,IntsR W v l:=by
 rcases open_slice ht h with ⟨hcs,rfl⟩|⟨a,len,cap,m,n,D,Pl,hcs,_,hl,hm,hmm,rfl,hx⟩
 ·simp at hcs
  subst hcs;exact⟨[],none,0,rfl,Nat.le_refl _,by omega,by decide,.inl rfl⟩
 ·simp at hcs
  subst hcs;simp only[if_true]at hmm;subst hmm;have each:∀i,i<m→∃x:Int,W.cell? (a.add i)=some (.int .i64 x):=by
   intro i hi;obtain⟨cs',h1,h2⟩:=hx i hi;rw[cells_int,Nat.mul_one]at h1;obtain⟨n0,e0,_⟩:=DataW.trod_int und_int h2;subst e0;obtain⟨_,_,hcell⟩:=World.cells?_some h1;have:=hcell 0 (by omega);rw[add_add]at this;exact⟨n0,by simpa using this⟩
  obtain⟨q,hq⟩:=choose_lt (α:=Int) each;refine⟨(List.range len).map q,some a,m,by simp,by simpa using hl,by unfold maxLen at hm;omega,?_,?_⟩
  ·have hw:(len+(m-len))*8≤reachBytes:=by
    have:=List.all_eq_true.1 hs ((len+(m-len))*8) (by simp[DataW.weights,ht,bytes_int]);simpa using this
   have:=reachBytes_lt;simp;omega
  ·refine cellsAt_of W a len 1 _ (by decide) (by simp) fun i hi j hj=> ?_
   obtain rfl:j=0:=by omega
   rw[Nat.mul_one,Nat.add_zero,hq i (by omega)];simp[hi]
end
end Go.Proofs.YtclgllmipcbagaaGreatDoor
