/-
  Parts of the proof: XN30 XY8 XY1 XY2 XY3 XY4
-/
import Derived.Test.YtclgllmipcbagaaGreatDoorBk02
import Derived.Test.YtclgllmipcbagaaGreatDoorBk12
import Derived.Test.YtclgllmipcbagaaGreatDoorSWk00
import Derived.Test.YtclgllmipcbagaaGreatDoorSWk01
import Derived.Test.YtclgllmipcbagaaGreatDoorSWk02
import Derived.Test.YtclgllmipcbagaaGreatDoorBk24
import Derived.Test.YtclgllmipcbagaaGreatDoorBk09
import Derived.Test.YtclgllmipcbagaaGreatDoorBk22
namespace Go.Proofs.YtclgllmipcbagaaGreatDoor
open Go.RowKit
set_option linter.unusedVariables false
set_option linter.unusedSimpArgs false
set_option maxRecDepth 100000
set_option maxHeartbeats 16000000
theorem dig_case {n:Nat}(h:n<10):n=0∨n=1∨n=2∨n=3∨n=4∨n=5∨n=6∨n=7∨n=8∨n=9:=by omega
theorem dec_step {n:Nat}(h:¬n<10):Lib.decDigits n=Lib.decDigits (n/10)++Lib.decDigits (n%10):=by
 conv=>lhs;rw[Lib.decDigits,dif_neg h]
 rw[Lib.decDigits_one (show n%10<10 by omega)]
theorem str2m (a:List UInt8):({data:= #[45]}:ByteArray)++str a=str (45::a):=str2b a 45
theorem r_digit (n:Nat)(h:n<10)(w:World):Calls Tryz.prog 223 #[.int .i64 n] w fun e w'=>e= .returned (.string (str (Lib.decDigits n)))∧w=w':=by
 rcases dig_case h with rfl|rfl|rfl|rfl|rfl|rfl|rfl|rfl|rfl|rfl<;>
 ·go_enter Tryz.func223,Tryz.ntmps223
  go_wp2_with fail;go_ret;exact⟨by kernel_rfl,rfl⟩
theorem r_digitsN:∀(k n:Nat),n≤k→n≤1000000000000→∀w:World,Calls Tryz.prog 223 #[.int .i64 n] w fun e w'=>e= .returned (.string (str (Lib.decDigits n)))∧w=w'
 |0,n,h,_,w=>r_digit n (by omega) w
 |k+1,n,h,hb,w=>by
  by_cases h10:n<10
  ·exact r_digit n h10 w
  ·have h1:=hid (fun w=>r_digitsN k (n/10) (by omega) (by omega) w)
   have h2:=hid (fun w=>r_digit (n%10) (by omega) w);obtain⟨Z,HZ⟩:∃Z,Hid (Z=Lib.decDigits n):=⟨_,rfl⟩;rw[← HZ.out];have HS:=hid (dec_step h10);have z1:=str_size (Lib.decDigits (n/10));have z2:=str_size (Lib.decDigits (n%10));have l1:=Lib.decDigits_length (n/10);have l2:=Lib.decDigits_length (n%10);have l3:=nDig_le 20 (n/10) (by omega) (by decide);have l4:=nDig_le 20 (n%10) (by omega) (by decide);have hI:¬(n:Int)<10:=by omega
   have hI0:¬(n:Int)<0:=by omega
   go_enter Tryz.func223,Tryz.ntmps223;go_wp2_with fail;refine(h1.out w).mono ?_;rintro e w1 ⟨rfl,rfl⟩;dsimp only;go_wp2_with fail;refine(h2.out _).mono ?_;rintro e w2 ⟨rfl,rfl⟩;dsimp only;go_wp2_with fail;go_ret;rw[str_app,HZ.out,HS.out];exact⟨rfl,rfl⟩
theorem r_dig (n:Int)(h0: -1000000000000≤n)(h1:n≤1000000000000)(w:World):Calls Tryz.prog 223 #[.int .i64 n] w fun e w'=>e= .returned (.string (str (Lib.itoa n)))∧w=w':=by
 by_cases hn:n<0
 ·obtain⟨m,rfl⟩:∃m:Nat,n= -(m:Int):=⟨n.natAbs,by omega⟩
  have h2:=hid (fun w=>r_digitsN m m (Nat.le_refl _) (by omega) w);obtain⟨Z,HZ⟩:∃Z,Hid (Z=Lib.itoa (-(m:Int))):=⟨_,rfl⟩;rw[← HZ.out];have HS:Hid (Z=45::Lib.decDigits m):=by show _=_;rw[HZ.out,Lib.itoa_neg m (by omega)]
  have z1:=str_size (Lib.decDigits m);have l1:=Lib.decDigits_length m;have l3:=nDig_le 20 m (by omega) (by decide);have wm:IntKind.i64.wrap (m:Int)=m:=IntWalk.i64_in _ (by omega);have hm:0<m:=by omega
  go_enter Tryz.func223,Tryz.ntmps223;go_wp2_with fail;refine(h2.out w).mono ?_;rintro e w1 ⟨rfl,rfl⟩;dsimp only;go_wp2_with fail;go_ret;rw[str2m,HS.out];exact⟨rfl,rfl⟩
 ·obtain⟨m,rfl⟩:∃m:Nat,n=(m:Int):=⟨n.toNat,by omega⟩
  rw[itoa_small];exact r_digitsN m m (Nat.le_refl _) (by omega) w
theorem r9_limited (t:List UInt8)(w:World):Calls Tryz.prog 171 #[.string (str t)] w fun e w'=>e= .returned (limV (limR t))∧w'=w:=by
 have hs:(str t).size=t.length:=str_size t;unfold limR limV;by_cases h:4096<t.length
 ·rw[if_pos h]
  have h':(4096:Int)<((str t).size:Int):=by omega
  go_enter Tryz.func171,Tryz.ntmps171;go_wp2_with fail;go_ret2;exact⟨rfl,rfl⟩
 ·rw[if_neg h]
  have h':¬(4096:Int)<((str t).size:Int):=by omega
  go_enter Tryz.func171,Tryz.ntmps171;go_wp2_with fail;go_ret2;exact⟨rfl,rfl⟩
theorem r9_times (m:Int)(h0:1≤m)(h1:m<100)(w:World):Calls Tryz.prog 224 #[.int .i64 m] w fun e w'=>e= .returned (.string (str (timesT m)))∧w=w':=by
 unfold timesT;by_cases h:m=1
 ·subst h
  rw[if_pos rfl];go_enter Tryz.func224,Tryz.ntmps224;go_wp2_with fail;go_ret;exact⟨rfl,rfl⟩
 ·rw[if_neg h]
  have hb:(m==1)=false:=by simpa using h
  have hd:=hid (fun w=>r_dig m (by omega) (by omega) w);have z1:=str_size (Lib.itoa m);have l1:=itoa_low (n:=m) (by omega) h1;clear h;go_enter Tryz.func224,Tryz.ntmps224;go_wp2_with fail;refine(hd.out w).mono ?_;rintro e w1 ⟨rfl,rfl⟩;dsimp only;go_wp2_with fail;go_ret;rw[str2b];exact⟨rfl,rfl⟩
theorem times_len {m:Int}(h0:1≤m)(h1:m<100):(timesT m).length≤3:=by
 have:=itoa_low (n:=m) (by omega) h1;unfold timesT;split<;>simp
 omega
theorem str_n58 (a:List UInt8):str a++({data:= #[58]}:ByteArray)=str (a++[58]):=by
 apply ByteArray.ext;simp[str]
theorem r9_edges (g:G)(gv:Value)(w:World)(hg:GrR w gv g)(hk:Gok g):
 Calls Tryz.prog 172 #[gv] w fun e w'=>e= .returned (.string (str (tabT 45 g)))∧Below w.heap.size w w':=by
 obtain⟨Z,HZ⟩:∃Z,Hid (Z=tabT 45 g):=⟨_,rfl⟩;rw[← HZ.out];have HLOW:=hid (gok_low hk);have hn:=hk.n;have HLEN:=hid hk.len;have hit:=itoa_low (n:=g.n) (by omega) (by omega);have zn:=str_size (Lib.itoa g.n);have hdn:=hid (fun w=>r_dig g.n (by omega) (by omega) w);obtain⟨ev,rfl,hE⟩:=hg;have HE:=hid hE;obtain⟨a,cap,rfl,hcap,hcm,_⟩:=hE;have hgb:=hid (Blk.new w #[.int .i64 g.n,.slice a g.es.length cap] 28);have HB0:=hid ((Below.refl w.heap.size w).alloc (Nat.le_refl _) (.cells #[.int .i64 g.n,.slice a g.es.length cap] 28));have HE0:=hid (HE.out.below HB0.out);go_enter Tryz.func172,Tryz.ntmps172;go_upto_region 1 with fail
 generalize w.alloc (.cells #[.int .i64 g.n,.slice a g.es.length cap] 28)=W0 at*
 have c0:W0.cell? ⟨w.heap.size,0,none⟩=some (.int .i64 g.n):=(hgb.out.cell 0).trans rfl;have hgl:=hgb.out.lt;go_wp2_with fail;refine(hdn.out W0).mono ?_;rintro e w1 ⟨rfl,rfl⟩;dsimp only;go_wp2_with fail;rw[str_n58];clear c0 hgl hn zn hdn
 go_loopw [3,4] (fun s i wr=>∃(k:Nat) (acc:List UInt8),k≤g.es.length∧i= .int .i64 k∧s= .string (str acc)∧acc.length≤3+9*k∧Hid (acc++arcsT 45 (g.es.drop k)=Z)∧Hid (Below W0.heap.size W0 wr))
  (fun _ i _=>g.es.length-(intOf i).toNat)
 case atStart=>exact⟨0,Lib.itoa g.n++[58],Nat.zero_le _,rfl,rfl,by simp;omega,by show _=_;rw[HZ.out];simp[tabT],Below.refl _ _⟩
 case round=>
  obtain⟨k,acc,hkn,rfl,rfl,hacc,HA,HB⟩:=hrel;obtain⟨W1,rfl⟩:∃W:World,W=wr:=⟨_,rfl⟩;have hgw:=hgb.out.below HB.out;have g1:W1.cell? ⟨w.heap.size,1,none⟩=some (.slice a g.es.length cap):=(hgw.cell 1).trans rfl;have hgl:=hgw.lt;have hlen:=HLEN.out;by_cases hlt:k<g.es.length
  ·have hlt':(k:Int)<(g.es.length:Int):=by omega
   have hk0:(0:Int)≤(k:Int):=by omega
   obtain⟨a',cap',ea,_,_,_,hc⟩:=HE0.out.below HB.out;injection ea with ea1 _ ea3
   subst ea1 ea3;obtain⟨b,off,rfl,hb,hc⟩:=hc.edge (by omega);obtain⟨c0,c1,c2⟩:=hc k hlt;have ha2:=HA.out;rw[drop_arcs hlt]at ha2;have hlow:=HLOW.out (g.es[k]?.getD default) (by rw[List.getElem?_eq_getElem hlt];exact List.getElem_mem hlt);clear hc;generalize hx:g.es[k]?.getD default=x at*
   obtain⟨xa,xb,xm⟩:=x;dsimp only at c0 c1 c2;have HA:=hid ha2;obtain⟨q1,q2,q3,q4,q5,q6⟩:=hlow;dsimp only at q1 q2 q3 q4 q5 q6;clear hx ha2;go_upto_region 6 with fail;have HX:=hid (Blk.new W1 #[.int .i64 xa,.int .i64 xb,.int .i64 xm] 150);have HB2:=hid (HB.out.alloc HB.out.size (.cells #[.int .i64 xa,.int .i64 xb,.int .i64 xm] 150));generalize hX:W1.heap.size=X at*
   generalize W1.alloc (.cells #[.int .i64 xa,.int .i64 xb,.int .i64 xm] 150)=W4 at*
   have x0:W4.cell? ⟨X,0,none⟩=some (.int .i64 xa):=(HX.out.cell 0).trans rfl;have x1:W4.cell? ⟨X,1,none⟩=some (.int .i64 xb):=(HX.out.cell 1).trans rfl;have x2:W4.cell? ⟨X,2,none⟩=some (.int .i64 xm):=(HX.out.cell 2).trans rfl;have hXl:=HX.out.lt;clear c0 c1 c2 g1 hgl hgw hb HB;have hia:=hid (fun w=>r_dig xa (by omega) (by omega) w);have hib:=hid (fun w=>r_dig xb (by omega) (by omega) w);have him:=hid (fun w=>r9_times xm q5 q6 w);have la:(str (Lib.itoa xa)).size≤2:=by rw[str_size];exact itoa_low q1 q2
   have lb:(str (Lib.itoa xb)).size≤2:=by rw[str_size];exact itoa_low q3 q4
   have lm:(str (timesT xm)).size≤3:=by rw[str_size];exact times_len q5 q6
   have ls:=str_size acc;have zs:(({data:= #[32]}:ByteArray)).size=1:=rfl;have zd:(({data:= #[45]}:ByteArray)).size=1:=rfl;let S:World→Prop:=fun W'=>Hid (W'=W4.drew)
   (refine wp_region_text 15 [0,1,2,6,7,10,11,3,4,5,8,9,12,13,14] S (by kernel_rfl) (by kernel_rfl) (by intro _ _ d _ _ h;cases d<;>exact h) ?hS ?_;rotate_left;simp only[xA,xB,xC,xD,xE,xF]);case hS=>exact rfl
   (repeat ((refine' wpSeq_take rfl _ (by rfl) ?_ ?_;rotate_left;focus(intro w' hS;(try dsimp only at hS);obtain rfl:=hS.out;go_simp;(first|done|with_reducible rfl));(try go_frame));(try go_frame)));(refine wpSeq_call rfl (by rfl) (fun K hK=> ?_);go_simp;refine((hia.out _)).mono ?_;rintro e w1 ⟨rfl,rfl⟩;refine hK _ _ (rfl) ?_;clear hK K;(try go_frame));(refine' wpSeq_take rfl _ (by rfl) ?_ ?_;rotate_left;focus(intro w' hS;(try dsimp only at hS);obtain rfl:=hS.out;go_simp;rw[if_neg (by omega)]);(try go_frame));(refine' wpSeq_take rfl _ (by rfl) ?_ ?_;rotate_left;focus(intro w' hS;(try dsimp only at hS);obtain rfl:=hS.out;go_simp;rw[if_neg (by omega)]);(try go_frame))
   (refine wpSeq_call rfl (by rfl) (fun K hK=> ?_);go_simp;refine((hib.out _)).mono ?_;rintro e w1 ⟨rfl,rfl⟩;refine hK _ _ (rfl) ?_;clear hK K;(try go_frame));(refine' wpSeq_take rfl _ (by rfl) ?_ ?_;rotate_left;focus(intro w' hS;(try dsimp only at hS);obtain rfl:=hS.out;go_simp;rw[if_neg (by omega)]);(try go_frame));(refine wpSeq_call rfl (by rfl) (fun K hK=> ?_);go_simp;refine((him.out _)).mono ?_;rintro e w1 ⟨rfl,rfl⟩;refine hK _ _ (rfl) ?_;clear hK K;(try go_frame));(refine' wpSeq_take rfl _ (by rfl) ?_ ?_;rotate_left;focus(intro w' hS;(try dsimp only at hS);obtain rfl:=hS.out;go_simp;rw[if_neg (by omega)]);(try go_frame))
   (refine' wpSeq_take rfl _ (by rfl) ?_ ?_;rotate_left;focus(intro w' hS;(try dsimp only at hS);obtain rfl:=hS.out;go_simp;rw[if_neg (by omega)]);(try go_frame));refine wpSeq_nil ?_;clear S;go_wp2_with fail;go_roundw
   case rel=>
    refine⟨k+1,acc++arcT 45 ⟨xa,xb,xm⟩,by omega,by go_num,?_,?_,?_,below_dN HB2.out _⟩
    ·congr 1
     apply ByteArray.ext;simp[str,arcT]
    ·have:=arcT_low 45 (x:=⟨xa,xb,xm⟩) ⟨q1,q2,q3,q4,q5,q6⟩
     rw[List.length_append];omega
    ·show _=_
     rw[← HA.out,List.append_assoc]
   case measure=>simp[intOf];omega
  ·obtain rfl:k=g.es.length:=by omega
   have hz:=HA.out;rw[List.drop_length]at hz;have hz2:acc=Z:=by rw[← hz];simp[arcsT]
   have hlt':¬(g.es.length:Int)<(g.es.length:Int):=by omega
   clear hz HA;go_wp2_with fail;go_ret;exact⟨rfl,up HB0.out HB.out⟩
theorem r9_Graph (g:G)(gv:Value)(w:World)(hg:GrR w gv g):
 Calls Tryz.prog 109 #[gv] w fun e w'=>e= .returned (limV (graphR g))∧Below w.heap.size w w':=by
 obtain⟨Z,HZ⟩:∃Z,Hid (Z=graphR g):=⟨_,rfl⟩;rw[← HZ.out];have HG0:=hid hg;obtain⟨ev,rfl,hE⟩:=hg;obtain⟨a,cap,rfl,_⟩:=hE;have hgb:=hid (Blk.new w #[.int .i64 g.n,.slice a g.es.length cap] 28);have HB0:=hid ((Below.refl w.heap.size w).alloc (Nat.le_refl _) (.cells #[.int .i64 g.n,.slice a g.es.length cap] 28));have HG1:=hid (HG0.out.below HB0.out);go_enter Tryz.func109,Tryz.ntmps109;go_upto_region 1 with fail;generalize w.alloc (.cells #[.int .i64 g.n,.slice a g.es.length cap] 28)=W0 at*
 have c0:W0.cell? ⟨w.heap.size,0,none⟩=some (.int .i64 g.n):=(hgb.out.cell 0).trans rfl;have c1:W0.cell? ⟨w.heap.size,1,none⟩=some (.slice a g.es.length cap):=(hgb.out.cell 1).trans rfl;have hgl:=hgb.out.lt;go_wp2_with fail;refine(r08_Check g _ W0 HG1.out).mono ?_;rintro e w1 ⟨rfl,hB1⟩;have HB1:=hid (up HB0.out hB1);have HG2:=hid (HG1.out.below hB1);have hgb1:=hid (hgb.out.below hB1);clear c0 c1 hgl hB1;dsimp only;by_cases hc:checkErr g=0
 ·have HZ2:Hid (Z=limR (wGraph++32::tabT 45 g)):=by have h:=HZ.out;unfold graphR at h;rw[if_neg (by omega)]at h;exact h
  have htl:(tabT 45 g).length≤2000:=by
   have h0:=Gok.n hc;have h1:=itoa_low (n:=g.n) (by omega) (by omega);have h2:=arcsT_len (sign:=45) (gok_low hc);have h3:=Gok.len hc;unfold tabT;simp;omega
  have hed:=hid (fun w hg=>r9_edges g (.agg #[.int .i64 g.n,.slice a g.es.length cap]) w hg hc);have hlm:=hid (fun w=>r9_limited (wGraph++32::tabT 45 g) w);have c0:w1.cell? ⟨w.heap.size,0,none⟩=some (.int .i64 g.n):=(hgb1.out.cell 0).trans rfl;have c1:w1.cell? ⟨w.heap.size,1,none⟩=some (.slice a g.es.length cap):=(hgb1.out.cell 1).trans rfl;have hgl:=hgb1.out.lt;have zt:=str_size (tabT 45 g);have zg:(({data:= #[103,114,97,112,104,32]}:ByteArray)).size=6:=rfl;have zz:({data:= #[103,114,97,112,104,32]}:ByteArray)++str (tabT 45 g)=str (wGraph++32::tabT 45 g):=by
   apply ByteArray.ext;simp[str,wGraph]
  rw[hc];clear HZ hc HG0 HG1;generalize tabT 45 g=tx at*
  rw[← HZ2.out]at hlm;obtain⟨z1,z2⟩:=Z;unfold limV at hlm;dsimp only at hlm;go_wp2_with fail;refine(hed.out w1 HG2.out).mono ?_;rintro e w2 ⟨rfl,hB2⟩;have HB2:=hid (up HB1.out hB2);clear hB2 c0 c1 hgl;dsimp only;go_wp2_with fail;refine(hlm.out w2).mono ?_;rintro e w3 ⟨rfl,rfl⟩;dsimp only;go_wp2_with fail;refine bodyPost_ret (results_two rfl _ _ _) rfl ?_;exact⟨rfl,HB2.out⟩
 ·have HZ2:Hid (Z=(checkErr g,[])):=by have h:=HZ.out;unfold graphR at h;rw[if_pos hc]at h;exact h
  have hc1:(checkErr g !=0)=true:=by simpa using hc
  clear HZ hc;go_wp2_with fail;refine bodyPost_ret (results_two rfl _ _ _) rfl ?_;rw[HZ2.out];exact⟨rfl,HB1.out⟩
theorem wr_let (n g:List UInt8):({data:= #[108,101,116,32]}:ByteArray)++str n++({data:= #[32]}:ByteArray)++str g=str (wLet++32::(n++32::g)):=by
 apply ByteArray.ext;simp[str,wLet]
theorem wr_put (n o g:List UInt8):({data:= #[112,117,116,32]}:ByteArray)++str n++({data:= #[32,111,110,32]}:ByteArray)++str o++str g=str (wPut++32::(n++32::(wOn++32::(o++g)))):=by
 apply ByteArray.ext;simp[str,wPut,wOn]
theorem wr_fire (n g:List UInt8):({data:= #[102,105,114,101,32]}:ByteArray)++str n++str g=str (wFire++32::(n++g)):=by
 apply ByteArray.ext;simp[str,wFire]
theorem wr_stab (n g:List UInt8):({data:= #[115,116,97,98,105,108,105,122,101,32]}:ByteArray)++str n++({data:= #[32,97,116]}:ByteArray)++str g=str (wStab++32::(n++32::(wAt++g))):=by
 apply ByteArray.ext;simp[str,wStab,wAt]
theorem wr_red (n g:List UInt8):({data:= #[114,101,100,117,99,101,32]}:ByteArray)++str n++({data:= #[32,97,116]}:ByteArray)++str g=str (wRed++32::(n++32::(wAt++g))):=by
 apply ByteArray.ext;simp[str,wRed,wAt]
theorem wr_add (n o g:List UInt8):({data:= #[97,100,100,32]}:ByteArray)++str n++({data:= #[32]}:ByteArray)++str o++({data:= #[32]}:ByteArray)++str g=str (wAdd++32::(n++32::(o++32::g))):=by
 apply ByteArray.ext;simp[str,wAdd]
theorem wr_drop (n:List UInt8):({data:= #[100,114,111,112,32]}:ByteArray)++str n=str (wDrop++32::n):=by
 apply ByteArray.ext;simp[str,wDrop]
theorem sz32:({data:= #[32]}:ByteArray).size=1:=rfl
theorem szOn:({data:= #[32,111,110,32]}:ByteArray).size=4:=rfl
theorem szAt:({data:= #[32,97,116]}:ByteArray).size=3:=rfl
theorem szLet:({data:= #[108,101,116,32]}:ByteArray).size=4:=rfl
theorem szPut:({data:= #[112,117,116,32]}:ByteArray).size=4:=rfl
theorem szFire:({data:= #[102,105,114,101,32]}:ByteArray).size=5:=rfl
theorem szStab:({data:= #[115,116,97,98,105,108,105,122,101,32]}:ByteArray).size=10:=rfl
theorem szRed:({data:= #[114,101,100,117,99,101,32]}:ByteArray).size=7:=rfl
theorem szAdd:({data:= #[97,100,100,32]}:ByteArray).size=4:=rfl
theorem szDrop:({data:= #[100,114,111,112,32]}:ByteArray).size=5:=rfl
theorem q_listed_one (q:Int)(w:World)(h0:0≤q)(h1:q<12):
 Calls Tryz.prog 110 #[.slice (some ⟨w.heap.size,0,none⟩) 1 1] (w.alloc (.cells #[.int .i64 q] 3)) fun e w'=>e= .returned (.string (str (intsT [q])))∧Below w.heap.size w w':=by
 have hB:Below w.heap.size w (w.alloc (.cells #[.int .i64 q] 3)):=by go_grown
 refine(q_listed [q] _ _ ⟨_,_,rfl,by simp,by omega,by simp,.inr ⟨_,0,rfl,by simp,fun i hi=> ?_⟩⟩ (fun x hx=> ?_) (by simp)).mono fun e w' h=>⟨h.1,up hB h.2⟩
 ·rw[Nat.zero_add,(Blk.new w _ _).cell i,List.getElem?_toArray];rfl
 ·rw[List.mem_singleton]at hx
  subst hx;omega
theorem q_listed_oneD (q:Int)(w:World)(h0:0≤q)(h1:q<12):
 Calls Tryz.prog 110 #[.slice (some ⟨w.heap.size,0,none⟩) 1 1] (w.alloc (.cells #[.int .i64 q] 3)).drew fun e w'=>e= .returned (.string (str (intsT [q])))∧Below w.heap.size w w':=
 (q_listed_one q w.drew h0 h1).mono fun e w' h=>⟨h.1,up (Below.drew (Below.refl _ _)) h.2⟩
theorem q_written (c:Cmd)(cv:Value)(w:World)(hc:CmdR w cv c)(hr:rightErr c=0):
 Calls Tryz.prog 69 #[cv] w fun e w'=>e= .returned (.string (str (textOf c)))∧Below w.heap.size w w':=by
 obtain⟨k0,k8,hw,hn,hs⟩:=right_ok hr;obtain⟨w1,w2,w3⟩:=cwords_ok hw;obtain⟨n1,n2,n3⟩:=cnums_ok hn;obtain⟨Z,HZ⟩:∃Z,Hid (Z=textOf c):=⟨_,rfl⟩;rw[← HZ.out];obtain⟨ev,vv,rfl,he,hv⟩:=hc;obtain⟨ea,ec,rfl,_⟩:=id he;obtain⟨va,vc,rfl,_⟩:=id hv;obtain⟨ck,cn,co,cp,cq,cg,cvl⟩:=c;dsimp only at*
 obtain⟨kn,rfl⟩:∃kn:Nat,ck=(kn:Int):=⟨ck.toNat,by omega⟩;have HN:Hid (kn≤6→cn.length≤24):=fun h=>(wordErr_ok (w1 (by simp[kName];omega))).2.2;have HO:Hid (kn=1∨kn=5→co.length≤24):=fun h=>(wordErr_ok (w2 (by simp[kOn];omega))).2.2;have HP:Hid (kn=5→cp.length≤24):=fun h=>(wordErr_ok (w3 (by simp[kOther];omega))).2.2;have HV:Hid (kn=1∨kn=2→cvl.length≤12∧∀x∈cvl,-1000000000≤x∧x≤1000000000):=fun h=>⟨(n3 (by simp[kVals];omega)).2.1,fun x hx=>by have:=chips_in (n3 (by simp[kVals];omega)).2.2 x hx;omega⟩;have HQ:Hid (kn=3∨kn=4→0≤cq∧cq<12):=fun h=>n1 (by simp[kAt];omega);have HG:Hid (kn=0→(graphR cg).2.length≤1400):=fun h=>(graphR_ok (n2 (by omega))).2
 have HEV:=hid he;have HVV:=hid hv;have HBK:=hid (Blk.new w #[.int .i64 kn,.string (str cn),.string (str co),.string (str cp),.int .i64 cq,.int .i64 cg.n,.slice ea cg.es.length ec,.slice va cvl.length vc] 39);have hB:Below w.heap.size w (w.alloc (.cells #[.int .i64 kn,.string (str cn),.string (str co),.string (str cp),.int .i64 cq,.int .i64 cg.n,.slice ea cg.es.length ec,.slice va cvl.length vc] 39)):=by go_grown
 have HB0:=hid hB;have hk9:kn<9:=by omega
 clear k0 k8 hw hn hs w1 w2 w3 n1 n2 n3 he hv hB hr;go_enter Tryz.func69,Tryz.ntmps69;go_upto_region 1 with fail;generalize w.alloc (.cells #[.int .i64 kn,.string (str cn),.string (str co),.string (str cp),.int .i64 cq,.int .i64 cg.n,.slice ea cg.es.length ec,.slice va cvl.length vc] 39)=W0 at*
 have lx:=HBK.out.lt;obtain⟨x0,x1,x2,x3,x4,x5,x6,x7⟩:=Blk.q8 HBK.out;have z32:=sz32;have zOn:=szOn;have zAt:=szAt;have z1:=str_size cn;have z2:=str_size co;have z3:=str_size cp;have hkc:kn=0∨kn=1∨kn=2∨kn=3∨kn=4∨kn=5∨kn=6∨kn=7∨kn=8:=by omega
 clear hk9;rcases hkc with rfl|rfl|rfl|rfl|rfl|rfl|rfl|rfl|rfl
 ·skip
  have hz:Hid (Z=wLet++32::(cn++32::(graphR cg).2)):=by show _=_;rw[HZ.out];simp[textOf]
  clear HZ;have zW:=szLet;have hn24:=HN.out (by omega);have hg:=HG.out rfl;have HGC:=hid (r9_Graph cg (.agg #[.int .i64 cg.n,.slice ea cg.es.length ec]) W0 ⟨_,rfl,HEV.out.below HB0.out⟩);have zg:=str_size (graphR cg).2;unfold limV at HGC;generalize (graphR cg).2=gt at*
  generalize (graphR cg).1=ge at*
  go_wp2_with fail;refine HGC.out.mono ?_;rintro e w5 ⟨rfl,hB5⟩;have x1:=(Below.cell hB5 (p:=⟨w.heap.size,1,none⟩) lx).trans x1;have lx:=Nat.lt_of_lt_of_le lx hB5.size;have HB5:=hid (up HB0.out hB5);clear hB5 HGC x0 x2 x3 x4 x5 x6 x7;dsimp only;go_wp2_with fail;rw[wr_let];go_ret;exact⟨by rw[hz.out];rfl,HB5.out⟩
 ·skip
  have hz:Hid (Z=wPut++32::(cn++32::(wOn++32::(co++intsT cvl)))):=by show _=_;rw[HZ.out];simp[textOf]
  clear HZ;have zW:=szPut;have hn24:=HN.out (by omega);have ho24:=HO.out (.inl rfl);obtain⟨hv12,hvc⟩:=HV.out (.inl rfl);have HVC:=hid hvc;have hil:=intsT_lenY cvl hvc;have zi:=str_size (intsT cvl);clear hvc;go_upto_region 6 with fail;let S:World→Prop:=fun w'=>Below W0.heap.size W0 w'
  (refine wp_region_pre 2 11 [0,4,7] [1,2,3,5,6,8,9,10] S (by kernel_rfl) (by kernel_rfl) (by intro _ _ d _ _ h;cases d<;>exact h) ?_;simp only[xA,xB,xC,xD,xE,xF]);(repeat ((refine' wpSeq_take rfl _ (by rfl) ?_ ?_;rotate_left;focus(intro w' hS;(try dsimp only at hS);skip;go_simp;(first|done|with_reducible rfl));(try go_frame));(try go_frame)));refine wpSeq_nil ⟨Below.drew (Below.refl _ _),?_⟩;(repeat ((refine' wpSeq_take rfl _ (by rfl) ?_ ?_;rotate_left;focus(intro w' hS;(try dsimp only at hS);have q1:w'.cell? ⟨w.heap.size,1,none⟩=some (.string (str cn)):=(Below.cell hS (p:=⟨w.heap.size,1,none⟩) lx).trans x1;go_simp;(first|done|with_reducible rfl));(try go_frame));(try go_frame)))
  (refine' wpSeq_take rfl _ (by rfl) ?_ ?_;rotate_left;focus(intro w' hS;(try dsimp only at hS);go_simp;rw[if_neg (by first|omega|(simp;omega))]);(try go_frame));(refine' wpSeq_take rfl _ (by rfl) ?_ ?_;rotate_left;focus(intro w' hS;(try dsimp only at hS);go_simp;rw[if_neg (by first|omega|(simp;omega))]);(try go_frame));(repeat ((refine' wpSeq_take rfl _ (by rfl) ?_ ?_;rotate_left;focus(intro w' hS;(try dsimp only at hS);have q2:w'.cell? ⟨w.heap.size,2,none⟩=some (.string (str co)):=(Below.cell hS (p:=⟨w.heap.size,2,none⟩) lx).trans x2;go_simp;(first|done|with_reducible rfl));(try go_frame));(try go_frame)))
  (refine' wpSeq_take rfl _ (by rfl) ?_ ?_;rotate_left;focus(intro w' hS;(try dsimp only at hS);go_simp;rw[if_neg (by first|omega|(simp;omega))]);(try go_frame));(repeat ((refine' wpSeq_take rfl _ (by rfl) ?_ ?_;rotate_left;focus(intro w' hS;(try dsimp only at hS);have q6:w'.cell? ⟨w.heap.size,6,none⟩=some (.slice ea cg.es.length ec):=(Below.cell hS (p:=⟨w.heap.size,6,none⟩) lx).trans x6;have q7:w'.cell? ⟨w.heap.size,7,none⟩=some (.slice va cvl.length vc):=(Below.cell hS (p:=⟨w.heap.size,7,none⟩) lx).trans x7;go_simp;(first|done|with_reducible rfl));(try go_frame));(try go_frame)));(refine wpSeq_call rfl (by rfl) (fun K hK=> ?_);go_simp;refine((q_listed cvl (.slice va cvl.length vc) _ (HVV.out.below (up HB0.out (Below.drew (Below.refl _ _)))) HVC.out (by omega))).mono ?_;rintro e w5 ⟨rfl,hB5⟩;refine hK _ _ (up (Below.drew (Below.refl _ _)) hB5) ?_;clear hK K;(try go_frame))
  (refine' wpSeq_take rfl _ (by rfl) ?_ ?_;rotate_left;focus(intro w' hS;(try dsimp only at hS);go_simp;rw[if_neg (by first|omega|(simp;omega))]);(try go_frame));refine wpSeq_nil ?_;clear S;have HB6:=hid (up HB0.out (up (Below.drew (Below.refl _ _)) hB5));clear hB5;go_wp2_with fail;rw[wr_put];go_ret;exact⟨by rw[hz.out];rfl,HB6.out⟩
 ·skip
  have hz:Hid (Z=wFire++32::(cn++intsT cvl)):=by show _=_;rw[HZ.out];simp[textOf]
  clear HZ;have zW:=szFire;have hn24:=HN.out (by omega);obtain⟨hv12,hvc⟩:=HV.out (.inr rfl);have HVC:=hid hvc;have hil:=intsT_lenY cvl hvc;have zi:=str_size (intsT cvl);clear hvc;go_upto_region 8 with fail;let S:World→Prop:=fun w'=>Below W0.heap.size W0 w'
  (refine wp_region_pre 2 6 [0,3] [1,2,4,5] S (by kernel_rfl) (by kernel_rfl) (by intro _ _ d _ _ h;cases d<;>exact h) ?_;simp only[xA,xB,xC,xD,xE,xF]);(repeat ((refine' wpSeq_take rfl _ (by rfl) ?_ ?_;rotate_left;focus(intro w' hS;(try dsimp only at hS);skip;go_simp;(first|done|with_reducible rfl));(try go_frame));(try go_frame)));refine wpSeq_nil ⟨Below.drew (Below.refl _ _),?_⟩;(repeat ((refine' wpSeq_take rfl _ (by rfl) ?_ ?_;rotate_left;focus(intro w' hS;(try dsimp only at hS);have q1:w'.cell? ⟨w.heap.size,1,none⟩=some (.string (str cn)):=(Below.cell hS (p:=⟨w.heap.size,1,none⟩) lx).trans x1;go_simp;(first|done|with_reducible rfl));(try go_frame));(try go_frame)))
  (refine' wpSeq_take rfl _ (by rfl) ?_ ?_;rotate_left;focus(intro w' hS;(try dsimp only at hS);go_simp;rw[if_neg (by first|omega|(simp;omega))]);(try go_frame));(repeat ((refine' wpSeq_take rfl _ (by rfl) ?_ ?_;rotate_left;focus(intro w' hS;(try dsimp only at hS);have q6:w'.cell? ⟨w.heap.size,6,none⟩=some (.slice ea cg.es.length ec):=(Below.cell hS (p:=⟨w.heap.size,6,none⟩) lx).trans x6;have q7:w'.cell? ⟨w.heap.size,7,none⟩=some (.slice va cvl.length vc):=(Below.cell hS (p:=⟨w.heap.size,7,none⟩) lx).trans x7;go_simp;(first|done|with_reducible rfl));(try go_frame));(try go_frame)));(refine wpSeq_call rfl (by rfl) (fun K hK=> ?_);go_simp;refine((q_listed cvl (.slice va cvl.length vc) _ (HVV.out.below (up HB0.out (Below.drew (Below.refl _ _)))) HVC.out (by omega))).mono ?_;rintro e w5 ⟨rfl,hB5⟩;refine hK _ _ (up (Below.drew (Below.refl _ _)) hB5) ?_;clear hK K;(try go_frame))
  refine wpSeq_nil ?_;clear S;have HB6:=hid (up HB0.out (up (Below.drew (Below.refl _ _)) hB5));clear hB5;go_wp2_with fail;rw[wr_fire];go_ret;exact⟨by rw[hz.out];rfl,HB6.out⟩
 ·skip
  have hz:Hid (Z=wStab++32::(cn++32::(wAt++intsT [cq]))):=by show _=_;rw[HZ.out];simp[textOf]
  clear HZ;have zW:=szStab;have hn24:=HN.out (by omega);obtain⟨hq0,hq1⟩:=HQ.out (.inl rfl);have HLQ:=hid (fun W=>q_listed_oneD cq W hq0 hq1);have hil:=intsT_lenY [cq] (fun x hx=>by rw[List.mem_singleton]at hx;subst hx;omega);have zi:=str_size (intsT [cq]);rw[List.length_singleton]at hil;go_upto_region 10 with fail;let S:World→Prop:=fun w'=>Below W0.heap.size W0 w'
  (refine wp_region_pre 2 8 [0,4] [1,2,3,5,6,7] S (by kernel_rfl) (by kernel_rfl) (by intro _ _ d _ _ h;cases d<;>exact h) ?_;simp only[xA,xB,xC,xD,xE,xF]);(repeat ((refine' wpSeq_take rfl _ (by rfl) ?_ ?_;rotate_left;focus(intro w' hS;(try dsimp only at hS);skip;go_simp;(first|done|with_reducible rfl));(try go_frame));(try go_frame)));refine wpSeq_nil ⟨Below.drew (Below.refl _ _),?_⟩;(repeat ((refine' wpSeq_take rfl _ (by rfl) ?_ ?_;rotate_left;focus(intro w' hS;(try dsimp only at hS);have q1:w'.cell? ⟨w.heap.size,1,none⟩=some (.string (str cn)):=(Below.cell hS (p:=⟨w.heap.size,1,none⟩) lx).trans x1;go_simp;(first|done|with_reducible rfl));(try go_frame));(try go_frame)))
  (refine' wpSeq_take rfl _ (by rfl) ?_ ?_;rotate_left;focus(intro w' hS;(try dsimp only at hS);go_simp;rw[if_neg (by first|omega|(simp;omega))]);(try go_frame));(refine' wpSeq_take rfl _ (by rfl) ?_ ?_;rotate_left;focus(intro w' hS;(try dsimp only at hS);go_simp;rw[if_neg (by first|omega|(simp;omega))]);(try go_frame));(repeat ((refine' wpSeq_take rfl _ (by rfl) ?_ ?_;rotate_left;focus(intro w' hS;(try dsimp only at hS);have q4:w'.cell? ⟨w.heap.size,4,none⟩=some (.int .i64 cq):=(Below.cell hS (p:=⟨w.heap.size,4,none⟩) lx).trans x4;go_simp;(first|done|with_reducible rfl));(try go_frame));(try go_frame)))
  (refine wpSeq_call rfl (by rfl) (fun K hK=> ?_);go_simp;refine hK _ _ ((Below.drew (Below.refl _ _)).alloc (Nat.le_refl _) _) ?_;clear hK K;(try go_frame));(refine wpSeq_call rfl (by rfl) (fun K hK=> ?_);go_simp;refine(HLQ.out W0).mono ?_;rintro e w5 ⟨rfl,hB5⟩;refine hK _ _ (hB5) ?_;clear hK K;(try go_frame));refine wpSeq_nil ?_;clear S;have HB6:=hid (up HB0.out hB5);clear hB5 HLQ;generalize intsT [cq]=tq at*
  go_wp2_with fail;rw[wr_stab];go_ret;exact⟨by rw[hz.out];rfl,HB6.out⟩
 ·skip
  have hz:Hid (Z=wRed++32::(cn++32::(wAt++intsT [cq]))):=by show _=_;rw[HZ.out];simp[textOf]
  clear HZ;have zW:=szRed;have hn24:=HN.out (by omega);obtain⟨hq0,hq1⟩:=HQ.out (.inr rfl);have HLQ:=hid (fun W=>q_listed_oneD cq W hq0 hq1);have hil:=intsT_lenY [cq] (fun x hx=>by rw[List.mem_singleton]at hx;subst hx;omega);have zi:=str_size (intsT [cq]);rw[List.length_singleton]at hil;go_upto_region 12 with fail;let S:World→Prop:=fun w'=>Below W0.heap.size W0 w'
  (refine wp_region_pre 2 8 [0,4] [1,2,3,5,6,7] S (by kernel_rfl) (by kernel_rfl) (by intro _ _ d _ _ h;cases d<;>exact h) ?_;simp only[xA,xB,xC,xD,xE,xF]);(repeat ((refine' wpSeq_take rfl _ (by rfl) ?_ ?_;rotate_left;focus(intro w' hS;(try dsimp only at hS);skip;go_simp;(first|done|with_reducible rfl));(try go_frame));(try go_frame)));refine wpSeq_nil ⟨Below.drew (Below.refl _ _),?_⟩;(repeat ((refine' wpSeq_take rfl _ (by rfl) ?_ ?_;rotate_left;focus(intro w' hS;(try dsimp only at hS);have q1:w'.cell? ⟨w.heap.size,1,none⟩=some (.string (str cn)):=(Below.cell hS (p:=⟨w.heap.size,1,none⟩) lx).trans x1;go_simp;(first|done|with_reducible rfl));(try go_frame));(try go_frame)))
  (refine' wpSeq_take rfl _ (by rfl) ?_ ?_;rotate_left;focus(intro w' hS;(try dsimp only at hS);go_simp;rw[if_neg (by first|omega|(simp;omega))]);(try go_frame));(refine' wpSeq_take rfl _ (by rfl) ?_ ?_;rotate_left;focus(intro w' hS;(try dsimp only at hS);go_simp;rw[if_neg (by first|omega|(simp;omega))]);(try go_frame));(repeat ((refine' wpSeq_take rfl _ (by rfl) ?_ ?_;rotate_left;focus(intro w' hS;(try dsimp only at hS);have q4:w'.cell? ⟨w.heap.size,4,none⟩=some (.int .i64 cq):=(Below.cell hS (p:=⟨w.heap.size,4,none⟩) lx).trans x4;go_simp;(first|done|with_reducible rfl));(try go_frame));(try go_frame)))
  (refine wpSeq_call rfl (by rfl) (fun K hK=> ?_);go_simp;refine hK _ _ ((Below.drew (Below.refl _ _)).alloc (Nat.le_refl _) _) ?_;clear hK K;(try go_frame));(refine wpSeq_call rfl (by rfl) (fun K hK=> ?_);go_simp;refine(HLQ.out W0).mono ?_;rintro e w5 ⟨rfl,hB5⟩;refine hK _ _ (hB5) ?_;clear hK K;(try go_frame));refine wpSeq_nil ?_;clear S;have HB6:=hid (up HB0.out hB5);clear hB5 HLQ;generalize intsT [cq]=tq at*
  go_wp2_with fail;rw[wr_red];go_ret;exact⟨by rw[hz.out];rfl,HB6.out⟩
 ·skip
  have hz:Hid (Z=wAdd++32::(cn++32::(co++32::cp))):=by show _=_;rw[HZ.out];simp[textOf]
  clear HZ;have zW:=szAdd;have hn24:=HN.out (by omega);have ho24:=HO.out (.inr rfl);have hp24:=HP.out rfl;go_wp2_with fail;rw[wr_add];go_ret;exact⟨by rw[hz.out];rfl,HB0.out⟩
 ·skip
  have hz:Hid (Z=wDrop++32::cn):=by show _=_;rw[HZ.out];simp[textOf]
  clear HZ;have zW:=szDrop;have hn24:=HN.out (by omega);go_wp2_with fail;rw[wr_drop];go_ret;exact⟨by rw[hz.out];rfl,HB0.out⟩
 ·skip
  have hz:Hid (Z=wUndo):=by show _=_;rw[HZ.out];simp[textOf]
  clear HZ;go_wp2_with fail;go_ret;exact⟨by rw[hz.out];rfl,HB0.out⟩
 ·skip
  have hz:Hid (Z=wRedo):=by show _=_;rw[HZ.out];simp[textOf]
  clear HZ;go_wp2_with fail;go_ret;exact⟨by rw[hz.out];rfl,HB0.out⟩
theorem q_Text (c:Cmd)(cv:Value)(w:World)(hc:CmdR w cv c)(hm:SmCmd c):
 Calls Tryz.prog 22 #[cv] w fun e w'=>e= .returned (limV (textR c))∧Below w.heap.size w w':=by
 have HC:=hid hc;obtain⟨Z,HZ⟩:∃Z,Hid (Z=textR c):=⟨_,rfl⟩;rw[← HZ.out];obtain⟨ev,vv,rfl,he,hv⟩:=hc;obtain⟨ea,ec,rfl,_⟩:=id he;obtain⟨va,vc,rfl,_⟩:=id hv;have hz:=HZ.out;unfold textR at hz;have HBK:=hid (Blk.new w #[.int .i64 c.kind,.string (str c.name),.string (str c.on),.string (str c.other),.int .i64 c.q,.int .i64 c.g.n,.slice ea c.g.es.length ec,.slice va c.vals.length vc] 39);have hB:Below w.heap.size w (w.alloc (.cells #[.int .i64 c.kind,.string (str c.name),.string (str c.on),.string (str c.other),.int .i64 c.q,.int .i64 c.g.n,.slice ea c.g.es.length ec,.slice va c.vals.length vc] 39)):=by go_grown
 have HB0:=hid hB;have HRI:=hid (q_Right c _ _ (HC.out.below HB0.out) hm);clear hB he hv;generalize hre:rightErr c=re at*
 go_enter Tryz.func22,Tryz.ntmps22;go_upto_region 1 with fail;generalize w.alloc (.cells #[.int .i64 c.kind,.string (str c.name),.string (str c.on),.string (str c.other),.int .i64 c.q,.int .i64 c.g.n,.slice ea c.g.es.length ec,.slice va c.vals.length vc] 39)=W0 at*
 have lx:=HBK.out.lt;obtain⟨x0,x1,x2,x3,x4,x5,x6,x7⟩:=Blk.q8 HBK.out;by_cases h0:re=0
 case neg=>
  rw[if_pos h0]at hz;have HZ2:=hid hz;have hb:(re !=0)=true:=by simpa using h0
  clear hz hre h0;go_wp2_with fail;refine HRI.out.mono ?_;rintro e w1 ⟨rfl,hB1⟩;dsimp only;go_wp2_with fail;refine bodyPost_ret (results_two rfl _ _ _) rfl ?_;exact⟨by rw[HZ2.out];rfl,up HB0.out hB1⟩
 subst h0;rw[if_neg (by simp)]at hz;have HZ2:=hid hz;have HRE:=hid hre;clear hz hre HZ;go_wp2_with fail;refine HRI.out.mono ?_;rintro e w1 ⟨rfl,hB1⟩;have HB1:=hid (up HB0.out hB1);have HBK1:=hid (HBK.out.below hB1);clear hB1 lx x0 x1 x2 x3 x4 x5 x6 x7 HBK HB0 HRI;have HTX:=hid (q_written c _ w1 (HC.out.below HB1.out) HRE.out);have lx:=HBK1.out.lt;obtain⟨x0,x1,x2,x3,x4,x5,x6,x7⟩:=Blk.q8 HBK1.out;generalize textOf c=tx at*
 have hsz:=str_size tx;dsimp only;go_wp2_with fail;refine HTX.out.mono ?_;rintro e w2 ⟨rfl,hB2⟩;have HB2:=hid (up HB1.out hB2);have hz:=HZ2.out;unfold limR at hz;clear hB2;dsimp only;by_cases hlong:4096<tx.length
 ·rw[if_pos hlong]at hz
  have HZ3:=hid hz;have hl:(4096:Int)<((str tx).size:Int):=by omega
  clear hz;go_wp2_with fail;refine bodyPost_ret (results_two rfl _ _ _) rfl ?_;exact⟨by rw[HZ3.out];rfl,HB2.out⟩
 ·rw[if_neg hlong]at hz
  have HZ3:=hid hz;have hl:¬(4096:Int)<((str tx).size:Int):=by omega
  clear hz;go_wp2_with fail;refine bodyPost_ret (results_two rfl _ _ _) rfl ?_;exact⟨by rw[HZ3.out];rfl,HB2.out⟩
theorem q_Sum (l:List UInt8)(w:World)(hl:l.length≤140737488355328):
 Calls Tryz.prog 27 #[.string (str l)] w fun e w'=>e= .returned (.int .i64 (sumB l))∧w'=w:=by
 have hz:=str_size l;have HSN:Hid (∀ k,k<l.length→sumB (l.take (k+1))=(131*sumB (l.take k)+(l[k]?.getD 0).toNat)%65521):=fun k hk=>by
  rw[List.take_succ_eq_append_getElem hk,sumB_snoc,List.getElem?_eq_getElem hk];rfl
 go_enter Tryz.func27,Tryz.ntmps27;go_wp2_with fail;go_loopw [4,3] (fun i sv wr=>∃k:Nat,k≤l.length∧i= .int .i64 k∧sv= .int .i64 (sumB (l.take k))∧Hid (wr=w)) (fun i _ _=>l.length-(intOf i).toNat);case atStart=>exact⟨0,Nat.zero_le _,rfl,rfl,rfl⟩
 case round=>
  obtain⟨k,hk,rfl,rfl,hw⟩:=hrel;obtain rfl:=hw.out;have hS:=sumB_lt (l.take k);by_cases hlt:k<l.length
  ·have hlt':(k:Int)<(l.length:Int):=by omega
   have hk0:(0:Int)≤(k:Int):=by omega
   have wk:IntKind.i64.wrap ((k:Int)+1)=(k:Int)+1:=IntWalk.i64_in _ (by omega);have HX:=hid (HSN.out k hlt);have hkt:k<(str l).size:=by omega
   have hgx:(str l)[k]'hkt=l[k]?.getD 0:=by rw[str_at,List.getElem?_eq_getElem hlt];rfl
   generalize l[k]?.getD 0=x at*
   have hx:=x.toNat_lt;generalize hs:sumB (l.take k)=s at*
   have HS:=hid hs;clear hs;have w1:IntKind.i64.wrap (131*(s:Int))=131*(s:Int):=IntWalk.i64_in _ (by omega);have w8:IntKind.i64.wrap (x.toNat:Int)=(x.toNat:Int):=IntWalk.i64_in _ (by omega);have w2:IntKind.i64.wrap (131*(s:Int)+(x.toNat:Int))=131*(s:Int)+(x.toNat:Int):=IntWalk.i64_in _ (by omega);go_wp2_with fail;go_roundw;case rel=>exact⟨k+1,by omega,by go_num,by rw[HX.out];exact congrArg (Value.int IntKind.i64) (by omega),hid (by first|rfl|trivial)⟩
   case measure=>simp[intOf];omega
  ·obtain rfl:k=l.length:=by omega
   have hlt':¬(l.length:Int)<(l.length:Int):=by omega
   rw[List.take_length]at*
   go_wp2_with fail;go_ret;exact⟨rfl,rfl⟩
theorem numOf_snocW (l:List UInt8)(k:Nat)(hk:k<l.length):numOf (l.take (k+1))=10*numOf (l.take k)+(l[k].toNat-48):=by
 unfold numOf;rw[List.take_succ_eq_append_getElem hk,List.foldl_append];rfl
theorem q_Int (l:List UInt8)(w:World)(hl:l.length≤140737488355328):
 Calls Tryz.prog 120 #[.string (str l)] w fun e w'=>e= .returned (.int .i64 (intQ l))∧w'=w:=by
 obtain⟨Z,HZ0⟩:∃Z,Hid (Z=intQ l):=⟨_,rfl⟩;rw[← HZ0.out];have hz:=str_size l;by_cases hs:l.head? =some 45
 ·obtain⟨t,rfl⟩:∃t,l=45::t:=by
   cases l with
   |nil=>cases hs
   |cons a t=>injection hs with hs;exact⟨t,by rw[hs]⟩
  have HZ:Hid (Z= -(natQ t)):=by show _=_;rw[HZ0.out];unfold intQ;rw[if_pos hs];rfl
  have HX:Hid ((str (45::t)).extract 1 (t.length+1)=str t):=by
   show _=_;rw[str_extract];simp
  have hkt:0<(str (45::t)).size:=by rw[str_size];simp
  have hgx:(str (45::t))[0]'hkt=45:=rfl;have hzt:=str_size t;clear HZ0 hs;go_enter Tryz.func120,Tryz.ntmps120;go_upto_region 4 with fail;rw[HX.out];clear hz HX hkt hgx;go_wp2_with fail;go_loopw [5,3] (fun i nv wr=>∃k:Nat,k≤t.length∧i= .int .i64 k∧nv= .int .i64 (numOf (t.take k):Int)∧Hid ((t.take k).all isDig=true∧k≤9∧numOf (t.take k)<10^k)∧Hid (wr=w)) (fun i _ _=>t.length-(intOf i).toNat);case atStart=>exact⟨0,Nat.zero_le _,rfl,rfl,⟨rfl,by omega,by rw[List.take_zero];decide⟩,rfl⟩
  case round=>
   obtain⟨k,hk,rfl,rfl,HK,hw⟩:=hrel;obtain rfl:=hw.out;have hk0:(0:Int)≤(k:Int):=by omega
   by_cases hlt:k<t.length
   ·have hlt':(k:Int)<(t.length:Int):=by omega
    have hkt:k<(str t).size:=by omega
    have hgx:(str t)[k]'hkt=t[k]?.getD 0:=by rw[str_at,List.getElem?_eq_getElem hlt];rfl
    have HSN:Hid (numOf (t.take (k+1))=10*numOf (t.take k)+((t[k]?.getD 0).toNat-48)):=by
     show _=_;rw[numOf_snocW t k hlt,List.getElem?_eq_getElem hlt];rfl
    have HAL:Hid ((t.take (k+1)).all isDig=((t.take k).all isDig&&isDig (t[k]?.getD 0))):=by
     show _=_;rw[List.take_succ_eq_append_getElem hlt,List.all_append,List.getElem?_eq_getElem hlt];simp
    have HBD:Hid (isDig (t[k]?.getD 0)=false→natQ t=0):=fun h=>by
     unfold natQ;rw[if_neg];rintro⟨h1,_⟩;have:=List.all_eq_true.1 h1 (t[k]?.getD 0) (by rw[List.getElem?_eq_getElem hlt];exact List.getElem_mem hlt);rw[h]at this;cases this
    generalize t[k]?.getD 0=x at*
    have hx:=x.toNat_lt;have HD:Hid (isDig x=(decide (48≤x.toNat)&&decide (x.toNat≤57))):=rfl;by_cases h1:x.toNat<48
    ·have d1:decide ((x.toNat:Int)<48)=true:=by simp;omega
     have hz0:=HBD.out (by rw[HD.out,decide_eq_false (by omega)];rfl);have HZ2:Hid (Z=0):=by show _=_;rw[HZ.out,hz0];rfl
     clear h1 HBD hz0;go_wp2_with fail;go_ret;exact⟨ret_int HZ2.out.symm,rfl⟩
    by_cases h2:57<x.toNat
    ·have d1:decide ((x.toNat:Int)<48)=false:=by simp;omega
     have d2:decide ((57:Int)<(x.toNat:Int))=true:=by simp;omega
     have hz0:=HBD.out (by rw[HD.out,decide_eq_false (by omega:¬x.toNat≤57),Bool.and_false]);have HZ2:Hid (Z=0):=by show _=_;rw[HZ.out,hz0];rfl
     clear h1 h2 HBD hz0;go_wp2_with fail;go_ret;exact⟨ret_int HZ2.out.symm,rfl⟩
    have d1:decide ((x.toNat:Int)<48)=false:=by simp;omega
    have d2:decide ((57:Int)<(x.toNat:Int))=false:=by simp;omega
    by_cases h3:8<k
    ·have d3:decide ((8:Int)<(k:Int))=true:=by simp;omega
     have hz0:natQ t=0:=by unfold natQ;rw[if_neg];rintro⟨_,h⟩;omega
     have HZ2:Hid (Z=0):=by show _=_;rw[HZ.out,hz0];rfl
     clear h1 h2 h3 HBD hz0;go_wp2_with fail;go_ret;exact⟨ret_int HZ2.out.symm,rfl⟩
    have d3:decide ((8:Int)<(k:Int))=false:=by simp;omega
    have hdg:isDig x=true:=by rw[HD.out,decide_eq_true (by omega),decide_eq_true (by omega)];rfl
    have wk:IntKind.i64.wrap ((k:Int)+1)=(k:Int)+1:=IntWalk.i64_in _ (by omega);have hpw:numOf (t.take k)<10^8:=Nat.lt_of_lt_of_le HK.out.2.2 (Nat.pow_le_pow_right (by decide) (by omega));have HK2:Hid ((t.take (k+1)).all isDig=true∧k+1≤9∧numOf (t.take (k+1))<10^(k+1)):=by
     refine⟨by rw[HAL.out,HK.out.1,hdg];rfl,by omega,?_⟩;have:=HK.out.2.2;rw[HSN.out,Nat.pow_succ];omega
    have HSN2:Hid ((numOf (t.take (k+1)):Int)=10*(numOf (t.take k):Int)+((x.toNat:Int)-48)):=by show _=_;rw[HSN.out];omega
    generalize numOf (t.take k)=s at*
    have w8:IntKind.u8.wrap ((x.toNat:Int)-48)=(x.toNat:Int)-48:=by
     show((x.toNat:Int)-48)%256=_;omega
    have w1:IntKind.i64.wrap (10*(s:Int))=10*(s:Int):=IntWalk.i64_in _ (by omega);have w9:IntKind.i64.wrap ((x.toNat:Int)-48)=(x.toNat:Int)-48:=IntWalk.i64_in _ (by omega);have w2:IntKind.i64.wrap (10*(s:Int)+((x.toNat:Int)-48))=10*(s:Int)+((x.toNat:Int)-48):=IntWalk.i64_in _ (by omega);clear h1 h2 h3 HBD HAL HD hpw HK;go_wp2_with fail;go_roundw;case rel=>exact⟨k+1,by omega,by go_num,by rw[HSN2.out],HK2,hid (by first|rfl|trivial)⟩
    case measure=>simp[intOf];omega
   ·obtain rfl:k=t.length:=by omega
    have hlt':¬(t.length:Int)<(t.length:Int):=by omega
    have hq:=HK.out;rw[List.take_length]at hq;have hz0:natQ t=(numOf t:Int):=by unfold natQ;rw[if_pos ⟨hq.1,hq.2.1⟩]
    have hpw:numOf t<10^9:=Nat.lt_of_lt_of_le hq.2.2 (Nat.pow_le_pow_right (by decide) hq.2.1);have HZ2:Hid (Z= -(numOf t:Int)):=by show _=_;rw[HZ.out,hz0]
    rw[List.take_length]at*
    generalize numOf t=s at*
    have w1:IntKind.i64.wrap (-1*(s:Int))= -1*(s:Int):=IntWalk.i64_in _ (by omega);clear hq hz0 HK;go_wp2_with fail;go_ret;exact⟨ret_int (by first|(rw [HZ2.out];done)|(rw [HZ2.out];rfl)|(rw [HZ2.out];omega)|(rw [HZ2.out];simp)),rfl⟩
 have HZ:Hid (Z=natQ l):=by show _=_;rw[HZ0.out];unfold intQ;rw[if_neg hs]
 clear HZ0;have hzt:(str l).size=l.length:=hz;by_cases h0:l.length=0
 ·have hlI:¬(0:Int)<(l.length:Int):=by omega
  clear hz hs h0;go_enter Tryz.func120,Tryz.ntmps120;go_wp2_with fail;go_loopw [5,3] (fun i nv wr=>∃k:Nat,k≤l.length∧i= .int .i64 k∧nv= .int .i64 (numOf (l.take k):Int)∧Hid ((l.take k).all isDig=true∧k≤9∧numOf (l.take k)<10^k)∧Hid (wr=w)) (fun i _ _=>l.length-(intOf i).toNat);case atStart=>exact⟨0,Nat.zero_le _,rfl,rfl,⟨rfl,by omega,by rw[List.take_zero];decide⟩,rfl⟩
  case round=>
   obtain⟨k,hk,rfl,rfl,HK,hw⟩:=hrel;obtain rfl:=hw.out;have hk0:(0:Int)≤(k:Int):=by omega
   by_cases hlt:k<l.length
   ·have hlt':(k:Int)<(l.length:Int):=by omega
    have hkt:k<(str l).size:=by omega
    have hgx:(str l)[k]'hkt=l[k]?.getD 0:=by rw[str_at,List.getElem?_eq_getElem hlt];rfl
    have HSN:Hid (numOf (l.take (k+1))=10*numOf (l.take k)+((l[k]?.getD 0).toNat-48)):=by
     show _=_;rw[numOf_snocW l k hlt,List.getElem?_eq_getElem hlt];rfl
    have HAL:Hid ((l.take (k+1)).all isDig=((l.take k).all isDig&&isDig (l[k]?.getD 0))):=by
     show _=_;rw[List.take_succ_eq_append_getElem hlt,List.all_append,List.getElem?_eq_getElem hlt];simp
    have HBD:Hid (isDig (l[k]?.getD 0)=false→natQ l=0):=fun h=>by
     unfold natQ;rw[if_neg];rintro⟨h1,_⟩;have:=List.all_eq_true.1 h1 (l[k]?.getD 0) (by rw[List.getElem?_eq_getElem hlt];exact List.getElem_mem hlt);rw[h]at this;cases this
    generalize l[k]?.getD 0=x at*
    have hx:=x.toNat_lt;have HD:Hid (isDig x=(decide (48≤x.toNat)&&decide (x.toNat≤57))):=rfl;by_cases h1:x.toNat<48
    ·have d1:decide ((x.toNat:Int)<48)=true:=by simp;omega
     have hz0:=HBD.out (by rw[HD.out,decide_eq_false (by omega)];rfl);have HZ2:Hid (Z=0):=by show _=_;rw[HZ.out,hz0]
     clear h1 HBD hz0;go_wp2_with fail;go_ret;exact⟨ret_int HZ2.out.symm,rfl⟩
    by_cases h2:57<x.toNat
    ·have d1:decide ((x.toNat:Int)<48)=false:=by simp;omega
     have d2:decide ((57:Int)<(x.toNat:Int))=true:=by simp;omega
     have hz0:=HBD.out (by rw[HD.out,decide_eq_false (by omega:¬x.toNat≤57),Bool.and_false]);have HZ2:Hid (Z=0):=by show _=_;rw[HZ.out,hz0]
     clear h1 h2 HBD hz0;go_wp2_with fail;go_ret;exact⟨ret_int HZ2.out.symm,rfl⟩
    have d1:decide ((x.toNat:Int)<48)=false:=by simp;omega
    have d2:decide ((57:Int)<(x.toNat:Int))=false:=by simp;omega
    by_cases h3:8<k
    ·have d3:decide ((8:Int)<(k:Int))=true:=by simp;omega
     have hz0:natQ l=0:=by unfold natQ;rw[if_neg];rintro⟨_,h⟩;omega
     have HZ2:Hid (Z=0):=by show _=_;rw[HZ.out,hz0]
     clear h1 h2 h3 HBD hz0;go_wp2_with fail;go_ret;exact⟨ret_int HZ2.out.symm,rfl⟩
    have d3:decide ((8:Int)<(k:Int))=false:=by simp;omega
    have hdg:isDig x=true:=by rw[HD.out,decide_eq_true (by omega),decide_eq_true (by omega)];rfl
    have wk:IntKind.i64.wrap ((k:Int)+1)=(k:Int)+1:=IntWalk.i64_in _ (by omega);have hpw:numOf (l.take k)<10^8:=Nat.lt_of_lt_of_le HK.out.2.2 (Nat.pow_le_pow_right (by decide) (by omega));have HK2:Hid ((l.take (k+1)).all isDig=true∧k+1≤9∧numOf (l.take (k+1))<10^(k+1)):=by
     refine⟨by rw[HAL.out,HK.out.1,hdg];rfl,by omega,?_⟩;have:=HK.out.2.2;rw[HSN.out,Nat.pow_succ];omega
    have HSN2:Hid ((numOf (l.take (k+1)):Int)=10*(numOf (l.take k):Int)+((x.toNat:Int)-48)):=by show _=_;rw[HSN.out];omega
    generalize numOf (l.take k)=s at*
    have w8:IntKind.u8.wrap ((x.toNat:Int)-48)=(x.toNat:Int)-48:=by
     show((x.toNat:Int)-48)%256=_;omega
    have w1:IntKind.i64.wrap (10*(s:Int))=10*(s:Int):=IntWalk.i64_in _ (by omega);have w9:IntKind.i64.wrap ((x.toNat:Int)-48)=(x.toNat:Int)-48:=IntWalk.i64_in _ (by omega);have w2:IntKind.i64.wrap (10*(s:Int)+((x.toNat:Int)-48))=10*(s:Int)+((x.toNat:Int)-48):=IntWalk.i64_in _ (by omega);clear h1 h2 h3 HBD HAL HD hpw HK;go_wp2_with fail;go_roundw;case rel=>exact⟨k+1,by omega,by go_num,by rw[HSN2.out],HK2,hid (by first|rfl|trivial)⟩
    case measure=>simp[intOf];omega
   ·obtain rfl:k=l.length:=by omega
    have hlt':¬(l.length:Int)<(l.length:Int):=by omega
    have hq:=HK.out;rw[List.take_length]at hq;have hz0:natQ l=(numOf l:Int):=by unfold natQ;rw[if_pos ⟨hq.1,hq.2.1⟩]
    have hpw:numOf l<10^9:=Nat.lt_of_lt_of_le hq.2.2 (Nat.pow_le_pow_right (by decide) hq.2.1);have HZ2:Hid (Z=(numOf l:Int)):=by show _=_;rw[HZ.out,hz0]
    rw[List.take_length]at*
    generalize numOf l=s at*
    have w1:IntKind.i64.wrap (1*(s:Int))=1*(s:Int):=IntWalk.i64_in _ (by omega);clear hq hz0 HK;go_wp2_with fail;go_ret;exact⟨ret_int (by first|(rw [HZ2.out];done)|(rw [HZ2.out];rfl)|(rw [HZ2.out];omega)|(rw [HZ2.out];simp)),rfl⟩
 ·have hkt1:0<(str l).size:=by omega
  have hgx1:(str l)[0]'hkt1=l[0]?.getD 0:=by rw[str_at,List.getElem?_eq_getElem (by omega)];rfl
  have hna:(((l[0]?.getD 0).toNat:Int)==45)=false:=by
   have:(l[0]?.getD 0).toNat≠45:=fun e=>hs (by
    rw[List.head?_eq_getElem?];cases hl0:l[0]? with
    |none=>rw[List.getElem?_eq_none_iff]at hl0;omega
    |some a=>rw[hl0]at e;rw[UInt8.toNat_inj.1 (show a.toNat=(45:UInt8).toNat from e)])
   simp;omega
  have hl0:(0:Int)<(l.length:Int):=by omega
  generalize l[0]?.getD 0=a at*
  clear hz hs h0;go_enter Tryz.func120,Tryz.ntmps120;go_wp2_with fail;go_loopw [5,3] (fun i nv wr=>∃k:Nat,k≤l.length∧i= .int .i64 k∧nv= .int .i64 (numOf (l.take k):Int)∧Hid ((l.take k).all isDig=true∧k≤9∧numOf (l.take k)<10^k)∧Hid (wr=w)) (fun i _ _=>l.length-(intOf i).toNat);case atStart=>exact⟨0,Nat.zero_le _,rfl,rfl,⟨rfl,by omega,by rw[List.take_zero];decide⟩,rfl⟩
  case round=>
   obtain⟨k,hk,rfl,rfl,HK,hw⟩:=hrel;obtain rfl:=hw.out;have hk0:(0:Int)≤(k:Int):=by omega
   by_cases hlt:k<l.length
   ·have hlt':(k:Int)<(l.length:Int):=by omega
    have hkt:k<(str l).size:=by omega
    have hgx:(str l)[k]'hkt=l[k]?.getD 0:=by rw[str_at,List.getElem?_eq_getElem hlt];rfl
    have HSN:Hid (numOf (l.take (k+1))=10*numOf (l.take k)+((l[k]?.getD 0).toNat-48)):=by
     show _=_;rw[numOf_snocW l k hlt,List.getElem?_eq_getElem hlt];rfl
    have HAL:Hid ((l.take (k+1)).all isDig=((l.take k).all isDig&&isDig (l[k]?.getD 0))):=by
     show _=_;rw[List.take_succ_eq_append_getElem hlt,List.all_append,List.getElem?_eq_getElem hlt];simp
    have HBD:Hid (isDig (l[k]?.getD 0)=false→natQ l=0):=fun h=>by
     unfold natQ;rw[if_neg];rintro⟨h1,_⟩;have:=List.all_eq_true.1 h1 (l[k]?.getD 0) (by rw[List.getElem?_eq_getElem hlt];exact List.getElem_mem hlt);rw[h]at this;cases this
    generalize l[k]?.getD 0=x at*
    have hx:=x.toNat_lt;have HD:Hid (isDig x=(decide (48≤x.toNat)&&decide (x.toNat≤57))):=rfl;by_cases h1:x.toNat<48
    ·have d1:decide ((x.toNat:Int)<48)=true:=by simp;omega
     have hz0:=HBD.out (by rw[HD.out,decide_eq_false (by omega)];rfl);have HZ2:Hid (Z=0):=by show _=_;rw[HZ.out,hz0]
     clear h1 HBD hz0;go_wp2_with fail;go_ret;exact⟨ret_int HZ2.out.symm,rfl⟩
    by_cases h2:57<x.toNat
    ·have d1:decide ((x.toNat:Int)<48)=false:=by simp;omega
     have d2:decide ((57:Int)<(x.toNat:Int))=true:=by simp;omega
     have hz0:=HBD.out (by rw[HD.out,decide_eq_false (by omega:¬x.toNat≤57),Bool.and_false]);have HZ2:Hid (Z=0):=by show _=_;rw[HZ.out,hz0]
     clear h1 h2 HBD hz0;go_wp2_with fail;go_ret;exact⟨ret_int HZ2.out.symm,rfl⟩
    have d1:decide ((x.toNat:Int)<48)=false:=by simp;omega
    have d2:decide ((57:Int)<(x.toNat:Int))=false:=by simp;omega
    by_cases h3:8<k
    ·have d3:decide ((8:Int)<(k:Int))=true:=by simp;omega
     have hz0:natQ l=0:=by unfold natQ;rw[if_neg];rintro⟨_,h⟩;omega
     have HZ2:Hid (Z=0):=by show _=_;rw[HZ.out,hz0]
     clear h1 h2 h3 HBD hz0;go_wp2_with fail;go_ret;exact⟨ret_int HZ2.out.symm,rfl⟩
    have d3:decide ((8:Int)<(k:Int))=false:=by simp;omega
    have hdg:isDig x=true:=by rw[HD.out,decide_eq_true (by omega),decide_eq_true (by omega)];rfl
    have wk:IntKind.i64.wrap ((k:Int)+1)=(k:Int)+1:=IntWalk.i64_in _ (by omega);have hpw:numOf (l.take k)<10^8:=Nat.lt_of_lt_of_le HK.out.2.2 (Nat.pow_le_pow_right (by decide) (by omega));have HK2:Hid ((l.take (k+1)).all isDig=true∧k+1≤9∧numOf (l.take (k+1))<10^(k+1)):=by
     refine⟨by rw[HAL.out,HK.out.1,hdg];rfl,by omega,?_⟩;have:=HK.out.2.2;rw[HSN.out,Nat.pow_succ];omega
    have HSN2:Hid ((numOf (l.take (k+1)):Int)=10*(numOf (l.take k):Int)+((x.toNat:Int)-48)):=by show _=_;rw[HSN.out];omega
    generalize numOf (l.take k)=s at*
    have w8:IntKind.u8.wrap ((x.toNat:Int)-48)=(x.toNat:Int)-48:=by
     show((x.toNat:Int)-48)%256=_;omega
    have w1:IntKind.i64.wrap (10*(s:Int))=10*(s:Int):=IntWalk.i64_in _ (by omega);have w9:IntKind.i64.wrap ((x.toNat:Int)-48)=(x.toNat:Int)-48:=IntWalk.i64_in _ (by omega);have w2:IntKind.i64.wrap (10*(s:Int)+((x.toNat:Int)-48))=10*(s:Int)+((x.toNat:Int)-48):=IntWalk.i64_in _ (by omega);clear h1 h2 h3 HBD HAL HD hpw HK;go_wp2_with fail;go_roundw;case rel=>exact⟨k+1,by omega,by go_num,by rw[HSN2.out],HK2,hid (by first|rfl|trivial)⟩
    case measure=>simp[intOf];omega
   ·obtain rfl:k=l.length:=by omega
    have hlt':¬(l.length:Int)<(l.length:Int):=by omega
    have hq:=HK.out;rw[List.take_length]at hq;have hz0:natQ l=(numOf l:Int):=by unfold natQ;rw[if_pos ⟨hq.1,hq.2.1⟩]
    have hpw:numOf l<10^9:=Nat.lt_of_lt_of_le hq.2.2 (Nat.pow_le_pow_right (by decide) hq.2.1);have HZ2:Hid (Z=(numOf l:Int)):=by show _=_;rw[HZ.out,hz0]
    rw[List.take_length]at*
    generalize numOf l=s at*
    have w1:IntKind.i64.wrap (1*(s:Int))=1*(s:Int):=IntWalk.i64_in _ (by omega);clear hq hz0 HK;go_wp2_with fail;go_ret;exact⟨ret_int (by first|(rw [HZ2.out];done)|(rw [HZ2.out];rfl)|(rw [HZ2.out];omega)|(rw [HZ2.out];simp)),rfl⟩
theorem q_ints (l:List (List UInt8))(v:Value)(w:World)(hl:StsR w v l)(hn:l.length≤1000000)(hs:∀x∈l,x.length≤140737488355328):
 Calls Tryz.prog 119 #[v] w (RetIntsN (l.map intQ) w):=by
 have HL:=hid hl;have HS:=hid hs;obtain⟨a,cap,rfl,hcap,hcm,_⟩:=hl;clear hs;go_enter Tryz.func119,Tryz.ntmps119;go_wp2_with fail
 go_loopw [4,3] (fun i t wr=>∃k:Nat,k≤l.length∧i= .int .i64 k∧Hid (wr.ownsRow w.heap.size 3 1 t ((l.take k).map intQ).length (((l.take k).map intQ).map (Value.int .i64)))∧Hid (Below w.heap.size w wr))
  (fun i _ _=>l.length-(intOf i).toNat)
 case atStart=>exact⟨0,Nat.zero_le _,rfl,World.ownsRow_nil _ _ _ _,Below.refl _ _⟩
 case round=>
  obtain⟨k,hk,rfl,HO,HB⟩:=hrel;by_cases hlt:k<l.length
  ·have hlt':(k:Int)<(l.length:Int):=by omega
   have hk0:(0:Int)≤(k:Int):=by omega
   obtain⟨b,off,rfl,hb,c0⟩:=(HL.out.below HB.out).at hlt;have HSX:Hid ((l[k]?.getD []).length≤140737488355328):=HS.out _ (by rw[List.getElem?_eq_getElem hlt];exact List.getElem_mem hlt);have HTK:Hid ((l.take (k+1)).map intQ=(l.take k).map intQ++[intQ (l[k]?.getD [])]):=by
    show _=_;rw[List.take_succ_eq_append_getElem hlt,List.map_append,List.getElem?_eq_getElem hlt];rfl
   have hlk:((l.take k).map intQ).length≤1000000:=by simp;omega
   generalize l[k]?.getD []=x at*
   have HAT:=hid ((q_Int x wr HSX.out).mono (fun e w' h=>(⟨h.1,by rw[h.2];exact Below.refl _ _⟩:e= .returned (.int .i64 (intQ x))∧Below wr.heap.size wr w')));generalize intQ x=n at*
   go_wp2_with fail;refine HAT.out.mono ?_;rintro e w2 ⟨rfl,hB2⟩;have HB2:=hid (up HB.out hB2);have HO2:Hid (w2.ownsRow w.heap.size 3 1 u3 ((l.take k).map intQ).length (((l.take k).map intQ).map (Value.int .i64))):=HO.out.kept (Below.toGrown hB2 none) (by cases u3.ownBlock<;>simp);clear hB2 c0 hb HAT HO HB;generalize (l.take k).map intQ=xs at*
   have hs2:=HB2.out.size;have ho2:=HO2.out;dsimp only;go_wp2_with (at_builtin;refine wpList_app1 w2 rfl _ _ 29 rfl 3 und_ints info_int w.heap.size _ xs ho2 n w2.heap.size rfl rfl rfl (by omega) hs2 ?_;intro v' w3 hown3 hgr3 hbk;have HO3:=hid hown3;have HB3:=hid (below_grown HB2.out hs2 hgr3 hbk (Nat.le_refl _));clear hown3 hgr3 hbk);go_roundw;case rel=>exact⟨k+1,by omega,by go_num,by show World.ownsRow _ _ _ _ _ _ _;rw[HTK.out];exact HO3.out,HB3⟩
   case measure=>simp[intOf];omega
  ·obtain rfl:k=l.length:=by omega
   have hlt':¬(l.length:Int)<(l.length:Int):=by omega
   have ho:=HO.out;rw[List.take_length]at ho;have HO2:=hid ho;clear ho HO;go_wp2_with fail;go_ret;exact RetIntsN.of HO2.out (by rw[List.length_map];omega) HB.out
end Go.Proofs.YtclgllmipcbagaaGreatDoor
namespace Go.Proofs.YtclgllmipcbagaaGreatDoor
set_option linter.unusedVariables false
set_option linter.unusedSimpArgs false
set_option maxRecDepth 100000
set_option maxHeartbeats 16000000
theorem parts32_form (l:List UInt8):∃p q,parts32 l=p::q:=by
 cases h:parts32 l with
 |nil=>exact absurd h (parts32_ne l)
 |cons p q=>exact⟨p,q,rfl⟩
theorem parts32_snocB:∀a:List UInt8,parts32 (a++[32])=parts32 a++[[]]
 |[]=>by simp[parts32]
 |x::r=>by
  have ih:=parts32_snocB r;rw[List.cons_append];by_cases h:x=32
  ·subst h
   rw[parts32_blank,parts32_blank,ih];rfl
  ·obtain⟨p,q,e⟩:=parts32_form r
   rw[e]at ih;rw[parts32_other h ih,parts32_other h e];rfl
def lastApp (l:List (List UInt8))(c:UInt8):List (List UInt8):=l.set (l.length-1) (l[l.length-1]?.getD []++[c])
theorem lastApp_cons (x y:List UInt8)(l:List (List UInt8))(c:UInt8):lastApp (x::y::l) c=x::lastApp (y::l) c:=by
 unfold lastApp;simp
theorem parts32_snoc {c:UInt8}(hc:c≠32):∀a:List UInt8,parts32 (a++[c])=lastApp (parts32 a) c
 |[]=>by simp[parts32,lastApp,hc]
 |x::r=>by
  have ih:=parts32_snoc hc r;obtain⟨p,q,e⟩:=parts32_form r;rw[e]at ih;rw[List.cons_append];by_cases h:x=32
  ·subst h
   rw[parts32_blank,parts32_blank,e,ih,lastApp_cons]
  ·rw[parts32_other h e]
   cases q with
   |nil=>
    have:parts32 (r++[c])=(p++[c])::[]:=by rw[ih];simp[lastApp]
    rw[parts32_other h this]
    simp[lastApp]
   |cons y q=>
    rw[lastApp_cons]at ih
    rw[parts32_other h ih,lastApp_cons]
end Go.Proofs.YtclgllmipcbagaaGreatDoor
