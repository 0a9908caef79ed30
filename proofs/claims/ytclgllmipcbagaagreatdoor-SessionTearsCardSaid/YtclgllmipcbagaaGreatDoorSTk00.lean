/-
  Parts of the proof: XV1 XV2 XV0 XV3 XV4 XV5 XV6 XV7 XV8
-/
import Derived.Test.YtclgllmipcbagaaGreatDoorBk29
import Derived.Test.YtclgllmipcbagaaGreatDoorBk21
import Derived.Test.YtclgllmipcbagaaGreatDoorBk28
import Derived.Test.YtclgllmipcbagaaGreatDoorBk19
import Derived.Test.YtclgllmipcbagaaGreatDoorBk24
import Derived.Test.YtclgllmipcbagaaGreatDoorBk17
import Derived.Test.YtclgllmipcbagaaGreatDoorBk22
namespace Go.Proofs.YtclgllmipcbagaaGreatDoor
open Go.RowKit
set_option linter.unusedVariables false
set_option linter.unusedSimpArgs false
set_option maxRecDepth 100000
set_option maxHeartbeats 16000000
def CmC (m:World)(ys:List (List Value))(l:List Cmd):Prop:=ys.length=l.length∧∀k,k<l.length→CmV m (l[k]?.getD default) (ys[k]?.getD [])
theorem CmC.nil (m:World):CmC m [] []:=⟨rfl,fun k hk=>by cases hk⟩
theorem CmC.snoc {m:World}{ys:List (List Value)}{l:List Cmd}{y:List Value}{c:Cmd}(h:CmC m ys l)(hc:CmV m c y):CmC m (ys++[y]) (l++[c]):=by
 refine⟨by simp[h.1],fun k hk=> ?_⟩;by_cases e:k<l.length
 ·rw[List.getElem?_append_left e,List.getElem?_append_left (by rw[h.1];exact e)]
  exact h.2 k e
 ·have e:k=l.length:=by simp at hk;omega
  subst e;have h2:(ys++[y])[l.length]? =some y:=by rw[← h.1];simp
  have h1:(l++[c])[l.length]? =some c:=by simp
  rw[h1,h2];exact hc
theorem CmV.sub {w w':World}{x:Cmd}{vs:List Value}(h:CmV w x vs)(k:Sub w w'):CmV w' x vs:=by
 obtain⟨ev,dv,e,h1,h2⟩:=h;exact⟨ev,dv,e,h1.sub k,h2.sub k⟩
theorem CmC.sub {m m':World}{ys:List (List Value)}{l:List Cmd}(h:CmC m ys l)(k:Sub m m'):CmC m' ys l:=⟨h.1,fun j hj=>(h.2 j hj).sub k⟩
theorem CmC.eight {m:World}{ys:List (List Value)}{l:List Cmd}(h:CmC m ys l):∀y∈ys,y.length=8:=by
 intro y hy;obtain⟨k,hk,rfl⟩:=List.getElem_of_mem hy;obtain⟨ev,vv,e,_⟩:=h.2 k (by rw[← h.1];exact hk);rw[List.getElem?_eq_getElem hk]at e;have e:ys[k]=_:=e;rw[e];rfl
theorem flat_row {ys:List (List Value)}{n:Nat}(h:∀y∈ys,y.length=n)(k:Nat)(hk:k<ys.length):(ys.flatten.drop (k*n)).take n=ys[k]?.getD []:=by
 have hy:(ys[k]?.getD []).length=n:=by rw[List.getElem?_eq_getElem hk];exact h _ (List.getElem_mem hk)
 apply List.ext_getElem?;intro j;by_cases hj:j<n
 ·rw[List.getElem?_take_of_lt hj,List.getElem?_drop,flat_at h k j hk hj]
 ·rw[List.getElem?_eq_none (by rw[List.length_take];omega),List.getElem?_eq_none (by omega)]
theorem cms_mk {m:World}{a:Option Addr}{cap:Nat}{ys:List (List Value)}{l:List Cmd}(h:CmC m ys l)(hc:CellsAt m a ys.flatten)(h1:l.length≤cap)(h2:cap≤9223372036854775807)(h3:l.length*120≤140737488355328):CmsR m (.slice a l.length cap) l:=
 ⟨a,cap,ys.flatten,rfl,h1,h2,h3,hc,by rw[flat_len h.eight,h.1],fun k hk=>by rw[flat_row h.eight k (by rw[h.1];exact hk)];exact h.2 k hk⟩
theorem news8 (w:World)(v0 v1 v2 v3 v4 v5 v6 v7:Value)(e:TypeId)(j:Nat)(u:Value)(h:[v0,v1,v2,v3,v4,v5,v6,v7][j]? =some u):(w.alloc (.cells #[v0,v1,v2,v3,v4,v5,v6,v7] e)).cell? ((⟨w.heap.size,0,none⟩:Addr).add j)=some u:=by
 have e1:(⟨w.heap.size,0,none⟩:Addr).add j=⟨w.heap.size,j,none⟩:=by unfold Addr.add;split<;>simp_all
 rw[e1,World.cell?_alloc_new];simpa using h
theorem one8 {k q n:Int}{s1 s2 s3:ByteArray}{a1 a2:Option Addr}{l1 c1 l2 c2:Nat}:∀u∈[Value.int .i64 k,.string s1,.string s2,.string s3,.int .i64 q,.int .i64 n,.slice a1 l1 c1,.slice a2 l2 c2],u.oneCell'=true:=by
 intro u hu;simp only[List.mem_cons,List.not_mem_nil,or_false]at hu;rcases hu with rfl|rfl|rfl|rfl|rfl|rfl|rfl|rfl<;>rfl
theorem take_stepC (l:List Cmd)(k:Nat)(hk:k<l.length):l.take (k+1)=l.take k++[l[k]?.getD default]:=by
 rw[List.take_succ_eq_append_getElem hk,List.getElem?_eq_getElem hk];rfl
theorem und_cmsR:Tryz.prog.underlying 80=some (.slice 39):=by kernel_rfl
theorem info_cmR:(Tryz.prog.info? 39).map (fun i=>(i.zero,i.size,i.bytes))=some (some (.agg #[.int .i64 0,.string ⟨#[]⟩,.string ⟨#[]⟩,.string ⟨#[]⟩,.int .i64 0,.int .i64 0,.slice none 0 0,.slice none 0 0]),8,120):=by kernel_rfl
def RetCms (l:List Cmd)(w:World)(e:Ending)(w':World):Prop:=∃v,e= .returned v∧CmsR w' v l∧Below w.heap.size w w'
theorem l_commands (l:List Cmd)(v:Value)(w:World)(hl:CmsR w v l):
 Calls Tryz.prog 37 #[v] w (RetCms l w):=by
 obtain⟨a,cap,rfl,hcap,hcm,hln⟩:=hl.form;have HL:=hid hl;clear hl;obtain⟨i0,hi,hz0,hz1,hz2⟩:=info_parts info_cmR;go_enter Tryz.func37,Tryz.ntmps37;go_wp2_with fail;go_loopw [3,8] (fun u i wr=>∃k:Nat,∃zs:List (List Value),k≤l.length∧i= .int .i64 k∧Hid (wr.ownsRow w.heap.size 39 8 u k zs.flatten)∧Hid (CmC w zs (l.take k))∧Hid (Below w.heap.size w wr)) (fun _ i _=>l.length-(intOf i).toNat);case atStart=>exact⟨0,[],Nat.zero_le _,rfl,World.ownsRow_nil _ _ _ _,CmC.nil _,Below.refl _ _⟩
 case round=>
  obtain⟨k,zs,hk,rfl,HO,HC,HB⟩:=hrel;obtain⟨wo,rfl⟩:∃wo:World,wo=wr:=⟨_,rfl⟩;have hk0:(0:Int)≤(k:Int):=by omega
  by_cases hlt:k<l.length
  ·have hlt':(k:Int)<(l.length:Int):=by omega
   have wk:IntKind.i64.wrap ((k:Int)+1)=(k:Int)+1:=IntWalk.i64_in _ (by omega);obtain⟨b,off,ea,ec,va,vc,rfl,hbw,hb,c0,c1,c2,c3,c4,c5,c6,c7,he,hv⟩:=HL.out.atB HB.out k hlt;have HCN:Hid (CmC w (zs++[[.int .i64 (l[k]?.getD default).kind,.string (str (l[k]?.getD default).name),.string (str (l[k]?.getD default).on),.string (str (l[k]?.getD default).other),.int .i64 (l[k]?.getD default).q,.int .i64 (l[k]?.getD default).g.n,.slice ea (l[k]?.getD default).g.es.length ec,.slice va (l[k]?.getD default).vals.length vc]]) (l.take (k+1))):=by
    show CmC _ _ _;rw[take_stepC l k hlt];exact HC.out.snoc ⟨_,_,rfl,he,hv⟩
   have hs:=HB.out.size;clear he hv;generalize l[k]?.getD default=x at*
   go_wp2_with (at_builtin;refine wpList_append_own _ rfl _ _ 80 rfl w.heap.size 39 i0 _ 8 120 und_cmsR hi hz0 hz1 hz2 rfl (by decide) _ k _ rfl ((HO.out.alloc _).alloc _) ⟨wo.heap.size+1,0,none⟩ 1 1 [.int .i64 x.kind,.string (str x.name),.string (str x.on),.string (str x.other),.int .i64 x.q,.int .i64 x.g.n,.slice ea x.g.es.length ec,.slice va x.vals.length vc] rfl rfl ?q1 one8 ?q2 ?q3 ?q4 ?_)
   case q1=>
    intro j u h;have:=news8 (wo.alloc (.cells #[.int .i64 x.kind,.string (str x.name),.string (str x.on),.string (str x.other),.int .i64 x.q,.int .i64 x.g.n,.slice ea x.g.es.length ec,.slice va x.vals.length vc] 31)) _ _ _ _ _ _ _ _ 39 j u h;simpa using this
   case q2=>unfold maxLen;omega
   case q3=>omega
   case q4=>simp;omega
   intro v' w2 hown2 hgr2 _;have HO2:=hid hown2;have HB2:Hid (Below w.heap.size w w2):=(((HB.out.alloc hs _).alloc (by simp;omega) _).grown hgr2 (by simp;omega) (fun q hq=>by have:=(HO.out.lt q hq).1;omega));clear hown2 hgr2;go_wp2_with fail;go_roundw;case rel=>exact⟨k+1,_,by omega,by go_num,hid (by rw[List.flatten_append];simpa using HO2.out),HCN,HB2⟩
   case measure=>simp[intOf];omega
  ·obtain rfl:k=l.length:=by omega
   have hlt':¬(l.length:Int)<(l.length:Int):=by omega
   rw[List.take_length]at HC;obtain⟨av,cv,hav,h1,h2,hca⟩:=owns_at HO.out;subst hav;have HRES:=hid (cms_mk (m:=wo) ⟨HC.out.1,fun j hj=>(HC.out.2 j hj).below HB.out⟩ hca h1 h2 hln);clear hca;go_wp2_with fail;go_ret;exact⟨_,rfl,HRES.out,HB.out⟩
theorem lay170J:Go.Proofs.Lays.n170 Tryz.prog renB:=
 {mixed:=by kernel_rfl,
  f170:=by kernel_rfl,
  t0:=by kernel_rfl,
  a0:=fun _=>by kernel_rfl,
  z0:=fun _=>by kernel_rfl,
  v0:=fun _=>by kernel_rfl,
  t3:=by kernel_rfl,
  a3:=fun _=>by kernel_rfl,
  z3:=fun _=>by kernel_rfl,
  v3:=fun _=>by kernel_rfl,
  t37:=by kernel_rfl,
  a37:=fun _=>by kernel_rfl,
  z37:=fun _=>by kernel_rfl,
  v37:=fun _=>by kernel_rfl,
  t70:=by kernel_rfl,
  a70:=fun _=>by kernel_rfl,
  z70:=fun _=>by kernel_rfl,
  v70:=fun _=>by kernel_rfl,
  t72:=by kernel_rfl,
  a72:=fun _=>by kernel_rfl,
  z72:=fun _=>by kernel_rfl,
  v72:=fun _=>by kernel_rfl}
theorem c_LenJ (B b:Nat)(l:List UInt8)(w:World)(h:Bld B b l w):
 Calls Tryz.prog 84 #[.pointer (some ⟨b,0,none⟩)] w fun e w'=>e= .returned (.int .i64 l.length)∧w'=w:=by
 refine(Any.Builder_Len_f lay170J B b (Lib.byteCells l) w h.1).mono ?_;rintro e w' ⟨h1,h2⟩;exact⟨by rw[h1];simp[Lib.byteCells],h2⟩
theorem lineT_str (n:Int)(t:List UInt8):str (Lib.itoa n)++({data:= #[32]}:ByteArray)++str t++({data:= #[10]}:ByteArray)=str (Lib.itoa n++32::(t++[10])):=str4 _ _ _ _
theorem s_Journal (l:List Cmd)(v:Value)(w:World)(hE:Env w)(hl:CmsR w v l)(hm:∀k,k<l.length→SmCmd (l[k]?.getD default)):
 Calls Tryz.prog 38 #[v] w fun e w'=>e= .returned (limV (journalR l))∧Below w.heap.size w w':=by
 obtain⟨Z,HZ⟩:∃Z,Hid (Z=journalR l):=⟨_,rfl⟩;rw[← HZ.out];have HL:=hid hl;have HE:=hid hE;have HM:=hid hm;obtain⟨a,cap,rfl,hcap,hcm,_⟩:=hl.form;clear hl hE hm;have hz:=HZ.out;unfold journalR at hz;by_cases hlong:4096<l.length
 case pos=>
  rw[if_pos hlong]at hz;have HZ2:=hid hz;have hlI:(4096:Int)<(l.length:Int):=by omega
  clear hz hlong HZ;go_enter Tryz.func38,Tryz.ntmps38;go_wp2_with fail;refine bodyPost_ret (results_two rfl _ _ _) rfl ?_;exact⟨by rw[HZ2.out];rfl,Below.refl _ _⟩
 rw[if_neg hlong]at hz;have HZ2:=hid hz;have hlI:¬(4096:Int)<(l.length:Int):=by omega
 have HLN:Hid (l.length≤4096):=by show _≤_;omega
 clear hz hlong HZ;go_enter Tryz.func38,Tryz.ntmps38;go_upto_region 4 with fail;have HBD:=hid (Bld.fresh w);have HB:=hid ((Below.refl w.heap.size w).alloc (Nat.le_refl _) (.cells #[.pointer none,.slice none 0 0] 133));generalize hbb:w.heap.size=bb at*
 generalize w.alloc (.cells #[.pointer none,.slice none 0 0] 133)=W2 at*
 go_wp2_with fail;go_loopw [14] (fun i wr=>∃k:Nat,k≤l.length∧i= .int .i64 k∧Hid (textsErr l=fstE (fun k=>(textR (l[k]?.getD default)).1) k (l.length-k))∧Hid (∀ c∈l.take k,(textR c).1=0)∧Hid (Bld bb bb (journalT (l.take k)) wr)∧Hid (Below bb w wr)) (fun i _=>l.length-(intOf i).toNat);case atStart=>exact⟨0,Nat.zero_le _,rfl,rfl,(fun c hc=>by cases hc),HBD,HB⟩
 case round=>
  clear HBD HB;obtain⟨k,hk,rfl,HTE,HOK,HBD,HBW⟩:=hrel;have hBw:Below w.heap.size w wr:=by rw[hbb];exact HBW.out
  have HBR:=hid hBw;clear hBw;have HJL:Hid ((journalT (l.take k)).length≤4103*k):=by
   show _≤_;have:=journalT_len HOK.out;rw[List.length_take]at this;omega
  by_cases hlt:k<l.length
  ·have hlt':(k:Int)<(l.length:Int):=by omega
   have hk0:(0:Int)≤(k:Int):=by omega
   have hte:=HTE.out;rw[fstE_step hlt]at hte;obtain⟨b,off,ea,ec,va,vc,rfl,hbw,hb,c0,c1,c2,c3,c4,c5,c6,c7,he,hv⟩:=HL.out.atB HBR.out k hlt;have HTX:=hid (fun W (h:Below w.heap.size w W)=>s_Text (l[k]?.getD default) (.agg #[.int .i64 (l[k]?.getD default).kind,.string (str (l[k]?.getD default).name),.string (str (l[k]?.getD default).on),.string (str (l[k]?.getD default).other),.int .i64 (l[k]?.getD default).q,.int .i64 (l[k]?.getD default).g.n,.slice ea (l[k]?.getD default).g.es.length ec,.slice va (l[k]?.getD default).vals.length vc]) W (HE.out.below h) ⟨_,_,rfl,he.below h,hv.below h⟩ (HM.out k hlt))
   have HST:=hid (take_stepC l k hlt);have HTE2:=hid hte;have HSN:Hid (journalT (l.take (k+1))=journalT (l.take k)++lineT (textR (l[k]?.getD default)).2):=by show _=_;rw[take_stepC l k hlt,journalT_snoc]
   have HTL:Hid ((textR (l[k]?.getD default)).1=0→(lineT (textR (l[k]?.getD default)).2).length≤4103∧(textR (l[k]?.getD default)).2.length≤4096):=fun h=>⟨lineT_len h,by have:=textR_ok h;rw[this.2.1];exact this.2.2⟩;have HNX:Hid ((textR (l[k]?.getD default)).1=0→∀c∈l.take (k+1),(textR c).1=0):=fun h c hc=>by
    rw[take_stepC l k hlt]at hc;rcases List.mem_append.1 hc with hc|hc
    ·exact HOK.out c hc
    ·rw[List.mem_singleton.1 hc];exact h
   clear hte he hv HTE HST HOK;generalize l[k]?.getD default=c at*
   go_upto_region 7 with fail;have HXC:=hid (Blk.new wr #[.int .i64 c.kind,.string (str c.name),.string (str c.on),.string (str c.other),.int .i64 c.q,.int .i64 c.g.n,.slice ea c.g.es.length ec,.slice va c.vals.length vc] 31);have hB1:Below wr.heap.size wr (wr.alloc (.cells #[.int .i64 c.kind,.string (str c.name),.string (str c.on),.string (str c.other),.int .i64 c.q,.int .i64 c.g.n,.slice ea c.g.es.length ec,.slice va c.vals.length vc] 31)):=by go_grown
   have HB1:=hid (up HBR.out hB1);have HBD1:=hid (HBD.out.below hB1);generalize wr.alloc (.cells #[.int .i64 c.kind,.string (str c.name),.string (str c.on),.string (str c.other),.int .i64 c.q,.int .i64 c.g.n,.slice ea c.g.es.length ec,.slice va c.vals.length vc] 31)=W1 at*
   generalize wr.heap.size=X at*
   clear hB1 HBD HBW HBR hb hbw c0 c1 c2 c3 c4 c5 c6 c7;have lx:=HXC.out.lt;have x0:=HXC.out.cell 0;have x1:=HXC.out.cell 1;have x2:=HXC.out.cell 2;have x3:=HXC.out.cell 3;have x4:=HXC.out.cell 4;have x5:=HXC.out.cell 5;have x6:=HXC.out.cell 6;have x7:=HXC.out.cell 7;simp only[xG,xH,xI]at x0 x1 x2 x3 x4 x5 x6 x7;go_wp2_with fail;refine(HTX.out _ HB1.out).mono ?_;rintro e w2 ⟨rfl,hB2⟩;have HB2:=hid (up HB1.out hB2);have HBD2:=hid (HBD1.out.below hB2);clear hB2 HBD1 HXC HTX lx x0 x1 x2 x3 x4 x5 x6 x7 HB1;unfold limV;generalize textR c=r at*
   obtain⟨te,tx⟩:=r;dsimp only at HTE2 HSN HTL HNX⊢;by_cases h0:te=0
   case neg=>
    have hb:(te !=0)=true:=by simpa using h0
    have hte:=HTE2.out;rw[if_pos h0]at hte;have hz:=HZ2.out;rw[hte,if_pos h0]at hz;have HZ3:=hid hz;clear hte hz h0 HZ2 HTE2 HTL HNX;go_wp2_with fail;refine bodyPost_ret (results_two rfl _ _ _) rfl ?_;exact⟨by rw[HZ3.out];rfl,HB2.out⟩
   have hte:=HTE2.out;rw[if_neg (by simpa using h0)]at hte;have HTE3:=hid hte;obtain⟨hl1,hl2⟩:=HTL.out h0;have HNX2:=hid (HNX.out h0);have HL1:=hid hl1;have HL2:=hid hl2;clear hte HTE2 HTL HNX hl1 hl2;subst h0;have hs:=sumB_lt tx;go_wp2_with fail;refine(s_Sum tx w2 (by have:=HL2.out;omega)).mono ?_;rintro e w3 ⟨rfl,hB3⟩;have HB3:=hid (up HB2.out hB3);have HBD3:=hid (HBD2.out.below hB3);clear hB3 HB2 HBD2;dsimp only;go_wp2_with fail;refine(c_Itoa (sumB tx) (by omega) (by omega) w3 (HE.out.below HB3.out)).mono ?_;rintro e w4 ⟨rfl,hB4⟩;have HB4:=hid (up HB3.out hB4);have HBD4:=hid (HBD3.out.below hB4)
   clear hB4 HB3 HBD3;have z1:=str_size (Lib.itoa (sumB tx));have z2:=str_size tx;have hl2:=HL2.out;have hi5:(Lib.itoa (sumB tx)).length≤5:=by
    have:=ndig_le 5 (sumB tx) (by omega) (by decide);rw[itoa_nat (by omega)];simpa[Lib.decDigits_length]using this
   dsimp only;go_wp2_with fail;rw[lineT_str];refine(c_WriteString bb bb (journalT (l.take k)) (Lib.itoa (sumB tx)++32::(tx++[10])) w4 HBD4.out (by have:=HJL.out;have:=HLN.out;omega) (by have:=HL1.out;unfold lineT at this;omega)).mono ?_;rintro e w5 ⟨rv,rfl,hbd,hbw,_⟩;have hsn:=HSN.out;unfold lineT at hsn;rw[← hsn]at hbd;have HBD5:=hid hbd;have hb4:Below bb w w4:=by rw[← hbb];exact HB4.out
   have HB5:=hid (hb4.trans hbw);clear hbd hbw hb4 hsn;dsimp only;go_wp2_with fail;go_roundw;case rel=>exact⟨k+1,by omega,by go_num,HTE3,HNX2,HBD5,HB5⟩
   case measure=>simp[intOf];omega
  ·obtain rfl:k=l.length:=by omega
   have hlt':¬(l.length:Int)<(l.length:Int):=by omega
   have hte:=HTE.out;rw[Nat.sub_self]at hte;have hte:textsErr l=0:=hte;have hz:=HZ2.out;rw[hte,if_neg (by simp)]at hz;have hbd:=HBD.out;rw[List.take_length]at hbd;have HBD2:=hid hbd;have HZ3:=hid hz;clear hbd HBD HTE HOK hz hte HZ2;generalize journalT l=J at*
   go_wp2_with fail;refine(c_LenJ bb bb J wr HBD2.out).mono ?_;rintro e w3 ⟨rfl,rfl⟩;dsimp only;by_cases hj:262144<J.length
   ·have hz:=HZ3.out
    rw[if_pos hj]at hz;have HZ4:=hid hz;have hjI:(262144:Int)<(J.length:Int):=by omega
    clear hz hj;go_wp2_with fail;refine bodyPost_ret (results_two rfl _ _ _) rfl ?_;exact⟨by rw[HZ4.out];rfl,HBR.out⟩
   ·have hz:=HZ3.out
    rw[if_neg hj]at hz;have HZ4:=hid hz;have hjI:¬(262144:Int)<(J.length:Int):=by omega
    clear hz hj;go_wp2_with fail;refine(c_String bb bb J w3 HBD2.out).mono ?_;rintro e w5 ⟨rfl,hB5⟩;dsimp only;go_wp2_with fail;refine bodyPost_ret (results_two rfl _ _ _) rfl ?_;exact⟨by rw[HZ4.out];rfl,by rw[hbb];exact HBW.out.trans hB5⟩
end Go.Proofs.YtclgllmipcbagaaGreatDoor
namespace Go.Proofs.YtclgllmipcbagaaGreatDoor
set_option linter.unusedVariables false
set_option linter.unusedSimpArgs false
set_option maxRecDepth 100000
set_option maxHeartbeats 16000000
theorem begun_rest:∀(f:Nat) (out:List Cmd) (t:List UInt8),∃a,t=a++(begunP f out t).2.1
 |0,out,t=>⟨[],rfl⟩
 |f+1,out,t=>by
  unfold begunP;by_cases h:t=[]
  ·rw[if_pos h,h];exact⟨[],rfl⟩
  ·rw[if_neg h]
   by_cases h2:out.length=4096
   ·rw[if_pos h2];exact⟨[],rfl⟩
   ·rw[if_neg h2]
    cases hc:cutB 10 t with
    |none=>exact⟨[],rfl⟩
    |some p=>
     obtain⟨s,r⟩:=p
     dsimp only
     by_cases h3:(lineP s).1≠0
     ·rw[if_pos h3];exact⟨[],rfl⟩
     ·rw[if_neg h3]
      obtain⟨a,ha⟩:=begun_rest f (out++[(lineP s).2]) r;refine⟨s++10::a,?_⟩;rw[List.append_assoc,List.cons_append,←ha];exact cutB_len hc
theorem begun_cmds:∀(f:Nat) (out:List Cmd) (t:List UInt8),out.length≤4096→(begunP f out t).1.length≤4096
 |0,out,t,h=>h
 |f+1,out,t,h=>by
  unfold begunP;by_cases h1:t=[]
  ·rw[if_pos h1];exact h
  ·rw[if_neg h1]
   by_cases h2:out.length=4096
   ·rw[if_pos h2];exact h
   ·rw[if_neg h2]
    cases hc:cutB 10 t with
    |none=>exact h
    |some p=>
     obtain⟨s,r⟩:=p
     dsimp only
     by_cases h3:(lineP s).1≠0
     ·rw[if_pos h3];exact h
     ·rw[if_neg h3]
      exact begun_cmds f _ r (by simp;omega)
def replayP (t:List UInt8):List Cmd×Int×Int:=
 if 262144<t.length then([],0,19)else if (begunP (t.length+1) [] t).2.2≠0 then([],((begunP (t.length+1) [] t).1.length:Int),(begunP (t.length+1) [] t).2.2)else((begunP (t.length+1) [] t).1,0,0)
def keptP (t:List UInt8):List UInt8:=t.take (t.length-(begunP (t.length+1) [] t).2.1.length)
def repairP (t:List UInt8):List UInt8:=keptP (t.take 262144)
theorem kept_rest (t:List UInt8):keptP t++(begunP (t.length+1) [] t).2.1=t:=by
 obtain⟨a,ha⟩:=begun_rest (t.length+1) [] t;unfold keptP;generalize (begunP (t.length+1) [] t).2.1=r at*
 subst ha;simp
end Go.Proofs.YtclgllmipcbagaaGreatDoor
namespace Go.Proofs.YtclgllmipcbagaaGreatDoor
open Go.RowKit
set_option linter.unusedVariables false
set_option linter.unusedSimpArgs false
set_option maxRecDepth 100000
set_option maxHeartbeats 16000000
theorem str_ne (a b:List UInt8):((str a).toList==(str b).toList)=decide (a=b):=by
 rw[str_eqb];by_cases h:a=b<;>simp[h]
theorem s_line (s:List UInt8)(w:World)(hE:EnvS w)(hl:s.length≤1000000000):Calls Tryz.prog 135 #[.string (str s)] w (RetReadF (lineP s) w):=by
 obtain⟨Z,HZ⟩:∃Z,Hid (Z=lineP s):=⟨_,rfl⟩;rw[← HZ.out];have HE:=hid hE;have hz:=HZ.out;unfold lineP at hz;have HR:=hid (Blk.new w #[.int .i64 0,.string ⟨#[]⟩,.string ⟨#[]⟩,.string ⟨#[]⟩,.int .i64 0,.int .i64 0,.slice none 0 0,.slice none 0 0] 31);have HB0:Hid (Below w.heap.size w (w.alloc (.cells #[.int .i64 0,.string ⟨#[]⟩,.string ⟨#[]⟩,.string ⟨#[]⟩,.int .i64 0,.int .i64 0,.slice none 0 0,.slice none 0 0] 31))):=by show Below _ _ _;go_grown
 clear hE HZ;have HZ0:=hid hz;clear hz;go_enter Tryz.func135,Tryz.ntmps135;go_upto_region 1 with fail;generalize w.alloc (.cells #[.int .i64 0,.string ⟨#[]⟩,.string ⟨#[]⟩,.string ⟨#[]⟩,.int .i64 0,.int .i64 0,.slice none 0 0,.slice none 0 0] 31)=W0 at*
 obtain⟨m,hm⟩:=(HE.out.below HB0.out).mx;have HCT:=hid (c_Cut 32 s m W0 (by omega) hm);clear hm;go_wp2_with fail;refine HCT.out.mono ?_;rintro e w1 ⟨rfl,hB1⟩;have HB1:=hid (up HB0.out hB1);have HR1:=hid (HR.out.below hB1);clear hB1 HB0 HR HCT;cases hc:cutB 32 s with
 |none=>
  have hz:=HZ0.out
  rw[hc]at hz
  dsimp only at hz⊢
  have HZ:=hid hz
  have lr:=HR1.out.lt
  have r0:=HR1.out.cell 0
  have r1:=HR1.out.cell 1
  have r2:=HR1.out.cell 2
  have r3:=HR1.out.cell 3
  have r4:=HR1.out.cell 4
  have r5:=HR1.out.cell 5
  have r6:=HR1.out.cell 6
  have r7:=HR1.out.cell 7
  have g0:=HR1.out.frozen 0
  have g1:=HR1.out.frozen 1
  have g2:=HR1.out.frozen 2
  have g3:=HR1.out.frozen 3
  have g4:=HR1.out.frozen 4
  have g5:=HR1.out.frozen 5
  have g6:=HR1.out.frozen 6
  have g7:=HR1.out.frozen 7
  simp only[xG,xH,xI]at r0 r1 r2 r3 r4 r5 r6 r7
  clear hz hc HZ0
  go_wp2_with fail
  refine bodyPost_ret (results_cellB rfl rfl (load_cmd (blk8 HR1.out _ _ _ _ _ _ _ _))) rfl ?_
  rw[HZ.out]
  exact(guess_fin (w:=w) (c:=cmd0) (ev:= .slice none 0 0) (vv:= .slice none 0 0) HR1.out (Nat.le_refl _) HB1.out (EdgesR.nil _) (IntsR.nil _) (fun g e=>e.elim (fun e=>by cases e) (fun e=>by cases e))).read 21
 |some p=>
  obtain⟨x,t⟩:=p
  have hz:=HZ0.out
  rw[hc]at hz
  dsimp only at hz⊢
  have hst:=cutB_len hc
  have HLT:Hid (t.length≤1000000000∧x.length≤1000000000):=by
   have:s.length=x.length+(t.length+1):=by rw[hst];simp
   exact⟨by omega,by omega⟩
  have HZ:=hid hz
  clear hz hc hst HZ0
  go_upto_region 2 with fail
  have hs:=sumB_lt t
  have s1:=str_ne x (Lib.itoa (sumB t))
  by_cases hx:x=Lib.itoa (sumB t)
  case neg=>
   have hz:=HZ.out;rw[if_pos hx]at hz;have HZ2:=hid hz;rw[decide_eq_false hx]at s1;clear hz HZ hx
   go_wp2_with (first
    |(go_at_call 26;refine(s_Sum t _ (by have:=HLT.out;omega)).mono ?_;rintro e w2 ⟨rfl,hB2⟩;have HB2:=hid (up HB1.out hB2);have HR2:=hid (HR1.out.below hB2))
    |(go_at_call 83;refine(c_Itoa (sumB t) (by omega) (by omega) _ (HE.out.below HB2.out).env).mono ?_;rintro e w3 ⟨rfl,hB3⟩;have HB3:=hid (up HB2.out hB3);have HR3:=hid (HR2.out.below hB3);
      have lr:=HR3.out.lt;have r0:=HR3.out.cell 0;have r1:=HR3.out.cell 1;have r2:=HR3.out.cell 2;have r3:=HR3.out.cell 3;have r4:=HR3.out.cell 4;have r5:=HR3.out.cell 5;have r6:=HR3.out.cell 6;have r7:=HR3.out.cell 7;
      have g0:=HR3.out.frozen 0;have g1:=HR3.out.frozen 1;have g2:=HR3.out.frozen 2;have g3:=HR3.out.frozen 3;have g4:=HR3.out.frozen 4;have g5:=HR3.out.frozen 5;have g6:=HR3.out.frozen 6;have g7:=HR3.out.frozen 7;
      simp only[xG,xH,xI]at r0 r1 r2 r3 r4 r5 r6 r7))
   refine bodyPost_ret (results_cellB rfl rfl (load_cmd (blk8 HR3.out _ _ _ _ _ _ _ _))) rfl ?_;rw[HZ2.out];exact(guess_fin (w:=w) (c:=cmd0) (ev:= .slice none 0 0) (vv:= .slice none 0 0) HR3.out (Nat.le_refl _) HB3.out (EdgesR.nil _) (IntsR.nil _) (fun g e=>e.elim (fun e=>by cases e) (fun e=>by cases e))).read 21
  have hz:=HZ.out
  rw[if_neg (by simpa using hx)]at hz
  have HZ2:=hid hz
  rw[decide_eq_true hx]at s1
  clear hz HZ hx
  have HRD:=hid (fun W (h:Below w.heap.size w W)=>s_ReadF t W (HE.out.below h) (by have:=HLT.out;omega))
  generalize readP t=q at*
  go_upto_region 4 with (first
   |(go_at_call 26;refine(s_Sum t _ (by have:=HLT.out;omega)).mono ?_;rintro e w2 ⟨rfl,hB2⟩;have HB2:=hid (up HB1.out hB2);have HR2:=hid (HR1.out.below hB2))
   |(go_at_call 83;refine(c_Itoa (sumB t) (by omega) (by omega) _ (HE.out.below HB2.out).env).mono ?_;rintro e w3 ⟨rfl,hB3⟩;have HB3:=hid (up HB2.out hB3);have HR3:=hid (HR2.out.below hB3)))
  go_wp2_with fail
  refine(HRD.out _ HB3.out).mono ?_
  rintro e w4 ⟨v,rfl,ev,vv,ee,he,hv,hfr,hB4⟩
  injection ee with ee
  subst ee
  obtain⟨ea,ec,rfl,_⟩:=id he
  obtain⟨va,vc,rfl,_⟩:=id hv
  have HB4:=hid (up HB3.out hB4)
  have HR4:=hid (HR3.out.below hB4)
  have hlt3:=HR3.out.lt
  have HEV:=hid he
  have HVV:=hid hv
  have HFR:Hid (∀ g,(Value.slice ea q.2.g.es.length ec).ownBlock=some g∨(Value.slice va q.2.vals.length vc).ownBlock=some g→w.heap.size<g):=fun g e=>by have:=hfr g e;omega
  clear he hv hfr hB4 HB3 HR3 HB2 HR2 HB1 HR1 hlt3 HRD
  have lr:=HR4.out.lt
  have r0:=HR4.out.cell 0
  have r1:=HR4.out.cell 1
  have r2:=HR4.out.cell 2
  have r3:=HR4.out.cell 3
  have r4:=HR4.out.cell 4
  have r5:=HR4.out.cell 5
  have r6:=HR4.out.cell 6
  have r7:=HR4.out.cell 7
  have g0:=HR4.out.frozen 0
  have g1:=HR4.out.frozen 1
  have g2:=HR4.out.frozen 2
  have g3:=HR4.out.frozen 3
  have g4:=HR4.out.frozen 4
  have g5:=HR4.out.frozen 5
  have g6:=HR4.out.frozen 6
  have g7:=HR4.out.frozen 7
  simp only[xG,xH,xI]at r0 r1 r2 r3 r4 r5 r6 r7
  dsimp only
  go_wp2_with fail
  refine bodyPost_ret (results_cellB rfl rfl (load_cmd (blk8 HR4.out _ _ _ _ _ _ _ _))) rfl ?_
  rw[HZ2.out]
  exact(guess_fin (w:=w) (c:=q.2) HR4.out (Nat.le_refl _) HB4.out HEV.out HVV.out HFR.out).read q.1
theorem EdgesR.fr {w:World}{v u:Value}{l:List E}{B:Nat}(h:EdgesR w v l)(hf:∀k,v.ownBlock=some k→B≤k)(hu:∀g,u.ownBlock=some g→g<B):EdgesR (Go.Proofs.YtclgllmipcbagaaGreatDoor.msk u w) v l:=by
 unfold Go.Proofs.YtclgllmipcbagaaGreatDoor.msk;split
 ·rename_i g e
  exact h.mask fun e2=>by have:=hf _ e2;have:=hu _ e;omega
 ·exact h
theorem IntsR.fr {w:World}{v u:Value}{l:List Int}{B:Nat}(h:IntsR w v l)(hf:∀k,v.ownBlock=some k→B≤k)(hu:∀g,u.ownBlock=some g→g<B):IntsR (Go.Proofs.YtclgllmipcbagaaGreatDoor.msk u w) v l:=by
 unfold Go.Proofs.YtclgllmipcbagaaGreatDoor.msk;split
 ·rename_i g e
  exact h.mask fun e2=>by have:=hf _ e2;have:=hu _ e;omega
 ·exact h
theorem und_cmsS:Tryz.prog.underlying 78=some (.slice 31):=by kernel_rfl
theorem info_cmS:(Tryz.prog.info? 31).map (fun i=>(i.zero,i.size,i.bytes))=some (some (.agg #[.int .i64 0,.string ⟨#[]⟩,.string ⟨#[]⟩,.string ⟨#[]⟩,.int .i64 0,.int .i64 0,.slice none 0 0,.slice none 0 0]),8,120):=by kernel_rfl
def RetBegun (z:List Cmd×List UInt8×Int)(w:World)(e:Ending)(w':World):Prop:=∃a cap,e= .returned (.tuple #[.slice a z.1.length cap,.string (str z.2.1),.int .i64 z.2.2])∧CmsR w' (.slice a z.1.length cap) z.1∧Below w.heap.size w w'
def lenS:Value→Nat
 | .string s=>s.size
 |_=>0
theorem out_read {w:World}{B:Nat}{u:Value}{out:List Cmd}{zs:List (List Value)}(HO:w.ownsRow B 31 8 u out.length zs.flatten)(HC:CmC (Go.Proofs.YtclgllmipcbagaaGreatDoor.msk u w) zs out)(h:out.length≤4096):∃a cap,u= .slice a out.length cap∧CmsR w (.slice a out.length cap) out:=by
 obtain⟨av,cv,hav,h1,h2,hca⟩:=owns_at HO;exact⟨av,cv,hav,cms_mk (HC.sub (sub_unmsk _ _)) hca h1 h2 (by omega)⟩
theorem s_begun (text:List UInt8)(w:World)(hE:EnvS w)(hl:text.length≤1000000000):Calls Tryz.prog 87 #[.string (str text)] w (RetBegun (begunP (text.length+1) [] text) w):=by
 obtain⟨Z,HZ⟩:∃Z,Hid (Z=begunP (text.length+1) [] text):=⟨_,rfl⟩;rw[← HZ.out];have HE:=hid hE;have HTL:Hid (text.length≤1000000000):=hl;obtain⟨i0,hi,hz0,hz1,hz2⟩:=info_parts info_cmS;clear hE hl;go_enter Tryz.func87,Tryz.ntmps87;go_wp2_with fail;go_loopw [0,5] (fun tv u wr=>∃(f:Nat) (t:List UInt8) (out:List Cmd) (zs:List (List Value)),tv= .string (str t)∧Hid (t.length<f∧t.length≤1000000000∧out.length≤4096)∧Hid (Z=begunP f out t)∧Hid (wr.ownsRow w.heap.size 31 8 u out.length zs.flatten)∧Hid (CmC (msk u wr) zs out)∧Hid (Below w.heap.size w wr)) (fun tv _ _=>lenS tv);case atStart=>exact⟨text.length+1,text,[],[],rfl,⟨Nat.lt_succ_self _,HTL.out,Nat.zero_le _⟩,HZ,World.ownsRow_nil _ _ _ _,CmC.nil _,Below.refl _ _⟩
 case round=>
  clear HZ HTL;obtain⟨f,t,out,zs,rfl,HF,HZ,HO,HC,HB⟩:=hrel;obtain⟨wo,rfl⟩:∃wo:World,wo=wr:=⟨_,rfl⟩;obtain⟨f,rfl⟩:∃g,f=g+1:=⟨f-1,by have:=HF.out;omega⟩;have hz:=HZ.out;unfold begunP at hz;have HU:Hid (∀ g,u5.ownBlock=some g→w.heap.size≤g∧g<wo.heap.size):=fun g e=>HO.out.lt g e;by_cases ht:t=[]
  case pos=>
   rw[if_pos ht]at hz;have s1:(str t).toList.isEmpty=true:=by rw[str_toList,ht];rfl
   have HZ2:=hid hz;obtain⟨av,cv,rfl,hcm⟩:=out_read HO.out HC.out HF.out.2.2;have HCM:=hid hcm;clear hz ht hcm HZ HO HC;go_wp2_with fail;go_ret3;rw[HZ2.out];exact⟨av,cv,rfl,HCM.out,HB.out⟩
  rw[if_neg ht]at hz;have s1:(str t).toList.isEmpty=false:=by rw[str_toList];simpa using ht
  obtain⟨av,cv,hav,hcm⟩:=out_read HO.out HC.out HF.out.2.2;have HCM:=hid hcm;subst hav;clear hcm HZ;by_cases hf:out.length=4096
  case pos=>
   rw[if_pos hf]at hz;have HZ2:=hid hz;have hfb:((out.length:Int)==4096)=true:=by rw[hf];rfl
   clear hz ht hf HO HC;go_wp2_with fail;go_ret3;rw[HZ2.out];exact⟨av,cv,rfl,HCM.out,HB.out⟩
  rw[if_neg hf]at hz;have hfb:((out.length:Int)==4096)=false:=by simp;omega
  have HFL:Hid (out.length<4096):=by have:=HF.out;show _<_;omega
  obtain⟨m,hm⟩:=(HE.out.below HB.out).mx;have HCT:=hid (c_Cut 10 t m wo (by have:=HF.out;omega) hm);clear hm hf ht;have HZ2:=hid hz;clear hz;have HLT:Hid (t.length<f+1∧t.length≤1000000000):=⟨HF.out.1,HF.out.2.1⟩;clear HF;cases hc:cutB 10 t with
  |none=>
   have hct:=HCT.out
   have hz:=HZ2.out
   rw[hc]at hct hz
   dsimp only at hct hz
   have HCT2:=hid hct
   have HZ3:=hid hz
   clear hct hz hc HCT HZ2 HO HC HLT
   go_wp2_with (go_at_call 134;refine HCT2.out.mono ?_;rintro e w1 ⟨rfl,hB1⟩;have HCM1:=hid (HCM.out.below hB1);have HB1:=hid (up HB.out hB1))
   go_ret3
   rw[HZ3.out]
   exact⟨av,cv,rfl,HCM1.out,HB1.out⟩
  |some p=>
  obtain⟨s,r⟩:=p;have hct:=HCT.out;have hz:=HZ2.out;rw[hc]at hct hz;dsimp only at hct hz;have hlen:=congrArg List.length (cutB_len hc);simp only[List.length_append,List.length_cons]at hlen;have HLR:Hid (r.length<f∧r.length<t.length∧s.length≤1000000000∧r.length≤1000000000):=by have:=HLT.out;exact⟨by omega,by omega,by omega,by omega⟩
  have HLI:=hid (fun W (h:Below w.heap.size w W)=>s_line s W (HE.out.below h) HLR.out.2.2.1);have HCT2:=hid hct;have HZ3:=hid hz;clear hct hz hc hlen HCT HZ2 HLT;generalize lineP s=q at*
  obtain⟨qe,c⟩:=q;dsimp only at HZ3 HLI;go_upto_region 8 with (go_at_call 134;refine HCT2.out.mono ?_;rintro e w1 ⟨rfl,hB1⟩);have HB1:=hid (up HB.out hB1);have HCM1:=hid (HCM.out.below hB1);have HO1:=hid (owns_below HO.out hB1);have HC1:Hid (CmC (msk (.slice av out.length cv) w1) zs out):=HC.out.sub ((sub_below hB1).msk _);have hs1:wo.heap.size≤w1.heap.size:=hB1.size;have HU1:Hid (∀ g,(Value.slice av out.length cv).ownBlock=some g→w.heap.size≤g∧g<w1.heap.size):=fun g e=>by have:=HU.out g e;omega
  clear hB1 HB HCM HO HC HCT2 HU hs1;go_wp2_with fail;refine(HLI.out _ HB1.out).mono ?_;rintro e w2 ⟨v,rfl,ev,vv,ee,he,hv,hfr,hB2⟩;injection ee with ee
  subst ee;have HE2:Hid (EdgesR (msk (.slice av out.length cv) w2) ev c.g.es):=he.fr (B:=w1.heap.size) (fun k e=>hfr k (.inl e)) (fun g e=>(HU1.out g e).2);have HV2:Hid (IntsR (msk (.slice av out.length cv) w2) vv c.vals):=hv.fr (B:=w1.heap.size) (fun k e=>hfr k (.inr e)) (fun g e=>(HU1.out g e).2);obtain⟨ea,ec,rfl,_⟩:=id he;obtain⟨va,vc,rfl,_⟩:=id hv;have HB2:=hid (up HB1.out hB2);have HCM2:=hid (HCM1.out.below hB2);have HO2:=hid (owns_below HO1.out hB2);have HC2:Hid (CmC (msk (.slice av out.length cv) w2) zs out):=HC1.out.sub ((sub_below hB2).msk _);clear hB2 hfr he hv HB1 HCM1 HO1 HC1 HLI;dsimp only
  go_upto_region 9 with fail;have HXC:=hid (Blk.new w2 #[.int .i64 c.kind,.string (str c.name),.string (str c.on),.string (str c.other),.int .i64 c.q,.int .i64 c.g.n,.slice ea c.g.es.length ec,.slice va c.vals.length vc] 31);have hB3:Below w2.heap.size w2 (w2.alloc (.cells #[.int .i64 c.kind,.string (str c.name),.string (str c.on),.string (str c.other),.int .i64 c.q,.int .i64 c.g.n,.slice ea c.g.es.length ec,.slice va c.vals.length vc] 31)):=by go_grown
  have hsb:Sub (msk (.slice av out.length cv) w2) (msk (.slice av out.length cv) (w2.alloc (.cells #[.int .i64 c.kind,.string (str c.name),.string (str c.on),.string (str c.other),.int .i64 c.q,.int .i64 c.g.n,.slice ea c.g.es.length ec,.slice va c.vals.length vc] 31))):=(sub_below hB3).msk _;have HB3:=hid (up HB2.out hB3);have HCM3:=hid (HCM2.out.below hB3);have HO3:=hid (owns_below HO2.out hB3);have HC3:=hid (HC2.out.sub hsb);have HE3:=hid (HE2.out.sub hsb);have HV3:=hid (HV2.out.sub hsb);generalize w2.alloc (.cells #[.int .i64 c.kind,.string (str c.name),.string (str c.on),.string (str c.other),.int .i64 c.q,.int .i64 c.g.n,.slice ea c.g.es.length ec,.slice va c.vals.length vc] 31)=W3 at*
  generalize w2.heap.size=X at*
  clear hB3 hsb HB2 HCM2 HO2 HC2 HE2 HV2;by_cases h0:qe=0
  case neg=>
   have hz:=HZ3.out;rw[if_pos h0]at hz;have hb:(qe !=0)=true:=by simpa using h0
   have HZ4:=hid hz;clear hz h0 HZ3 HO3 HC3 HE3 HV3 HXC;go_wp2_with fail;go_ret3;rw[HZ4.out];exact⟨av,cv,rfl,HCM3.out,HB3.out⟩
  have hz:=HZ3.out;rw[if_neg (by simpa using h0)]at hz;have HZ4:=hid hz;clear hz HZ3 HCM3;subst h0;have lx:=HXC.out.lt;have x0:=HXC.out.cell 0;have x1:=HXC.out.cell 1;have x2:=HXC.out.cell 2;have x3:=HXC.out.cell 3;have x4:=HXC.out.cell 4;have x5:=HXC.out.cell 5;have x6:=HXC.out.cell 6;have x7:=HXC.out.cell 7;simp only[xG,xH,xI]at x0 x1 x2 x3 x4 x5 x6 x7;have hs3:=HB3.out.size;have HU3:Hid (∀ g,(Value.slice av out.length cv).ownBlock=some g→w.heap.size≤g):=fun g e=>(HU1.out g e).1;clear HU1;go_wp2_with (at_builtin;refine wpList_append_own_at _ rfl _ _ 78 rfl w.heap.size 31 i0 _ 8 120 und_cmsS hi hz0 hz1 hz2 rfl (by decide) _ out.length _ rfl (owns_below HO3.out ((Below.refl _ _).alloc (Nat.le_refl _) _)) ⟨W3.heap.size,0,none⟩ 1 1 [.int .i64 c.kind,.string (str c.name),.string (str c.on),.string (str c.other),.int .i64 c.q,.int .i64 c.g.n,.slice ea c.g.es.length ec,.slice va c.vals.length vc] rfl rfl (news8 W3 _ _ _ _ _ _ _ _ _) one8 ?q2 ?q3 ?q4 ?_)
  case q2=>have:=HFL.out;unfold maxLen;omega
  case q3=>have:=HFL.out;omega
  case q4=>first|omega|(simp;omega)
  intro v' w4 hown hgr _ hat;have HO4:=hid hown;have HB4:Hid (Below w.heap.size w w4):=(HB3.out.alloc hs3 _).grown hgr (by simp;omega) (fun q hq=>HU3.out q hq);have ha:Sub W3 (W3.alloc (.cells #[.int .i64 c.kind,.string (str c.name),.string (str c.on),.string (str c.other),.int .i64 c.q,.int .i64 c.g.n,.slice ea c.g.es.length ec,.slice va c.vals.length vc] 31)):=sub_below ((Below.refl _ W3).alloc (Nat.le_refl _) _);have hsub:Sub (msk (.slice av out.length cv) W3) (msk v' w4):=(ha.msk _).trans (sub_app hgr (by rw[World.size_alloc];exact hat));have HCN:Hid (CmC (msk v' w4) (zs++[[.int .i64 c.kind,.string (str c.name),.string (str c.on),.string (str c.other),.int .i64 c.q,.int .i64 c.g.n,.slice ea c.g.es.length ec,.slice va c.vals.length vc]]) (out++[c])):=(HC3.out.sub hsub).snoc ⟨_,_,rfl,HE3.out.sub hsub,HV3.out.sub hsub⟩
  clear hown hgr hat ha hsub;go_wp2_with fail;go_roundw;case rel=>exact⟨f,r,out++[c],_,rfl,⟨HLR.out.1,HLR.out.2.2.2,by have:=HFL.out;simp;omega⟩,HZ4,hid (by rw[List.flatten_append];simpa using HO4.out),HCN,HB4⟩
  case measure=>have:=HLR.out;simp[lenS,str_size];omega
def RetReplay (z:List Cmd×Int×Int)(w:World)(e:Ending)(w':World):Prop:=∃a cap,e= .returned (.tuple #[.slice a z.1.length cap,.int .i64 z.2.1,.int .i64 z.2.2])∧CmsR w' (.slice a z.1.length cap) z.1∧Below w.heap.size w w'
theorem s_Replay (t:List UInt8)(w:World)(hE:EnvS w)(hl:t.length≤140737488355328):Calls Tryz.prog 40 #[.string (str t)] w (RetReplay (replayP t) w):=by
 obtain⟨Z,HZ⟩:∃Z,Hid (Z=replayP t):=⟨_,rfl⟩;rw[← HZ.out];have hz:=HZ.out;unfold replayP at hz;have hsz:=str_size t;clear HZ;by_cases hlong:262144<t.length
 ·rw[if_pos hlong]at hz
  have HZ:=hid hz;have hlI:(262144:Int)<((str t).size:Int):=by omega
  clear hz hlong;go_enter Tryz.func40,Tryz.ntmps40;go_wp2_with fail;go_ret3;rw[HZ.out];exact⟨none,0,rfl,CmsR.nil _,Below.refl _ _⟩
 rw[if_neg hlong]at hz;have HZ:=hid hz;have hlI:¬(262144:Int)<((str t).size:Int):=by omega
 have HBG:=hid (s_begun t w hE (by omega));have HCL:Hid ((begunP (t.length+1) [] t).1.length≤4096):=begun_cmds _ _ _ (Nat.zero_le _);clear hz hlong hE hl;generalize begunP (t.length+1) [] t=b at*
 obtain⟨l,r,k⟩:=b;dsimp only at HZ HCL;by_cases h0:k=0
 ·have hz:=HZ.out
  rw[if_neg (by simpa using h0)]at hz;have HZ2:=hid hz;subst h0;clear hz HZ;go_enter Tryz.func40,Tryz.ntmps40;go_wp2_with (go_at_call 87;refine HBG.out.mono ?_;rintro e w1 ⟨a,cap,rfl,hcm,hB1⟩;have HCM:=hid hcm;have HB1:=hid hB1;clear hcm hB1);go_ret3;rw[HZ2.out];exact⟨a,cap,rfl,HCM.out,HB1.out⟩
 ·have hz:=HZ.out
  rw[if_pos h0]at hz;have hb:(k !=0)=true:=by simpa using h0
  have HZ2:=hid hz;clear hz HZ h0;go_enter Tryz.func40,Tryz.ntmps40;go_wp2_with (go_at_call 87;refine HBG.out.mono ?_;rintro e w1 ⟨a,cap,rfl,hcm,hB1⟩;have HCM:=hid hcm;have HB1:=hid hB1;clear hcm hB1);go_ret3;rw[HZ2.out];exact⟨none,0,rfl,CmsR.nil _,HB1.out⟩
theorem s_Repair (t:List UInt8)(w:World)(hE:EnvS w)(hl:t.length≤140737488355328):Calls Tryz.prog 43 #[.string (str t)] w fun e w'=>e= .returned (.string (str (repairP t)))∧Below w.heap.size w w':=by
 obtain⟨Z,HZ⟩:∃Z,Hid (Z=repairP t):=⟨_,rfl⟩;rw[← HZ.out];have hsz:=str_size t;obtain⟨n,hn1,hn2,hn3,hn4⟩:∃n:Nat,(min (t.length:Int) 262144=(n:Int))∧n≤t.length∧n≤262144∧t.take 262144=t.take n:=by
  by_cases h:t.length≤262144
  ·exact⟨t.length,by omega,Nat.le_refl _,h,by rw[List.take_of_length_le h,List.take_length]⟩
  ·exact⟨262144,by omega,by omega,Nat.le_refl _,rfl⟩
 have hmin:∀(ts:Array TypeId) (ty:TypeId) (W:World),(Builtin.min_ ts ty #[.int .i64 (t.length:Int),.int .i64 262144]).run Tryz.prog W= .ok (.int .i64 (n:Int)) W:=fun ts ty W=>by
  have e:(if (262144:Int)<(t.length:Int)then(262144:Int)else(t.length:Int))=(n:Int):=by rw[← hn1];split<;>omega
  rw[run_min_int2,e]
 have HX:Hid ((str t).extract 0 n=str (t.take n)):=by show _=_;rw[str_extract];simp
 have hz:=HZ.out;unfold repairP at hz;rw[hn4]at hz;have HZ2:=hid hz;have hn5:(n:Int)≤(t.length:Int):=by omega
 have hn0:(0:Int)≤(n:Int):=by omega
 have HBG:=hid (s_begun (t.take n) w hE (by rw[List.length_take];omega));have HKR:=hid (kept_rest (t.take n));have HUL:Hid ((t.take n).length≤262144):=by show _≤_;rw[List.length_take];omega
 clear hz hn1 hn3 hn4 HZ hE hl;go_enter Tryz.func43,Tryz.ntmps43;go_upto_region 2 with fail;rw[HX.out];generalize t.take n=u at*
 generalize (begunP (u.length+1) [] u)=b at*
 obtain⟨l,r,k⟩:=b;dsimp only at HKR;have HTS:Hid (∀ W,Calls Tryz.prog 89 #[.string (str u),.string (str r)] W fun e w'=>e= .returned (.string (str (keptP u)))∧Below W.heap.size W w'):=fun W=>by
  have h:=c_TrimSuffix (keptP u) r W (by rw[HKR.out];have:=HUL.out;omega);rw[HKR.out]at h;exact h
 clear hmin hsz HX hn5 hn0 hn2 HKR HUL
 go_wp2_with (first
  |(go_at_call 87;refine HBG.out.mono ?_;rintro e w1 ⟨a,cap,rfl,hcm,hB1⟩;have HB1:=hid hB1;clear hcm hB1)
  |(go_at_call 89;refine(HTS.out _).mono ?_;rintro e w2 ⟨rfl,hB2⟩;have HB2:=hid (up HB1.out hB2)))
 go_ret;exact⟨by rw[HZ2.out];rfl,HB2.out⟩
def RetBo (P:Prop)(w:World)(e:Ending)(w':World):Prop:=∃b,e= .returned (.bool b)∧(b=true→P)∧Below w.heap.size w w'
theorem q_FewCmd (c:Cmd)(cv:Value)(w:World)(hc:CmdR w cv c):Calls Tryz.prog 13 #[cv] w (RetBo True w):=by
 obtain⟨ea,ec,va,vc,rfl,he,hv⟩:=hc.form;have HG:=hid (fun (W:World) (h:Below w.heap.size w W)=>r08_Few c.g (.agg #[.int .i64 c.g.n,.slice ea c.g.es.length ec]) W ⟨_,rfl,he.below h⟩);obtain⟨a',cap',ev,hcp,hcm,hvb,hvc⟩:=id hv;injection ev with ev1 ev2 ev3
 subst ev1 ev3;have HVC:=hid hvc;have HXC:=hid (Blk.new w #[.int .i64 c.kind,.string (str c.name),.string (str c.on),.string (str c.other),.int .i64 c.q,.int .i64 c.g.n,.slice ea c.g.es.length ec,.slice va c.vals.length vc] 39);have HB0:Hid (Below w.heap.size w (w.alloc (.cells #[.int .i64 c.kind,.string (str c.name),.string (str c.on),.string (str c.other),.int .i64 c.q,.int .i64 c.g.n,.slice ea c.g.es.length ec,.slice va c.vals.length vc] 39))):=by show Below _ _ _;go_grown
 have z1:=str_size c.name;have z2:=str_size c.on;have z3:=str_size c.other;clear he hv hvc hc;go_enter Tryz.func13,Tryz.ntmps13;go_upto_region 1 with fail;generalize w.alloc (.cells #[.int .i64 c.kind,.string (str c.name),.string (str c.on),.string (str c.other),.int .i64 c.q,.int .i64 c.g.n,.slice ea c.g.es.length ec,.slice va c.vals.length vc] 39)=W0 at*
 have lx:=HXC.out.lt;have x1:=HXC.out.cell 1;have x2:=HXC.out.cell 2;have x3:=HXC.out.cell 3;have x5:=HXC.out.cell 5;have x6:=HXC.out.cell 6;have x7:=HXC.out.cell 7;simp only[xG,xH,xI]at x1 x2 x3 x5 x6 x7;by_cases p1:60<c.name.length
 case pos=>
  have g1:decide ((60:Int)<(c.name.length:Int))=true:=by simp;omega
  clear p1;go_wp2_with fail;go_ret;exact⟨_,rfl,fun _=>trivial,HB0.out⟩
 have g1:decide ((60:Int)<(c.name.length:Int))=false:=by simp;omega
 clear p1;by_cases p2:60<c.on.length
 case pos=>
  have g2:decide ((60:Int)<(c.on.length:Int))=true:=by simp;omega
  clear p2;go_wp2_with fail;go_ret;exact⟨_,rfl,fun _=>trivial,HB0.out⟩
 have g2:decide ((60:Int)<(c.on.length:Int))=false:=by simp;omega
 clear p2;by_cases p3:60<c.other.length
 case pos=>
  have g3:decide ((60:Int)<(c.other.length:Int))=true:=by simp;omega
  clear p3;go_wp2_with fail;go_ret;exact⟨_,rfl,fun _=>trivial,HB0.out⟩
 have g3:decide ((60:Int)<(c.other.length:Int))=false:=by simp;omega
 clear p3;by_cases p4:40<c.vals.length
 case pos=>
  have g4:decide ((40:Int)<(c.vals.length:Int))=true:=by simp;omega
  clear p4;go_wp2_with fail;go_ret;exact⟨_,rfl,fun _=>trivial,HB0.out⟩
 have g4:decide ((40:Int)<(c.vals.length:Int))=false:=by simp;omega
 have HN40:Hid (c.vals.length≤40):=by show _≤_;omega
 clear p4;generalize smallB c.g 6 9=sm at*
 go_wp2_with fail;refine(HG.out _ HB0.out).mono ?_;rintro e w1 ⟨rfl,hB1⟩;have HB1:=hid (up HB0.out hB1);have HX1:=hid (HXC.out.below hB1);have HV1:=hid (HVC.out.below HB1.out);clear HVC;clear x1 x2 x3 x5 x6 x7 lx hB1 HXC HB0 HG g1 g2 g3 g4 z1 z2 z3;dsimp only;cases sm with
 |false=>
  go_wp2_with fail
  go_ret
  exact⟨_,rfl,fun _=>trivial,HB1.out⟩
 |true=>
 go_wp2_with fail;go_loopw [3] (fun i wr=>∃k:Nat,k≤c.vals.length∧i= .int .i64 k∧Hid (wr=w1)) (fun i _=>c.vals.length-(intOf i).toNat);case atStart=>exact⟨0,Nat.zero_le _,rfl,rfl⟩
 case round=>
  obtain⟨k,hk,rfl,hw⟩:=hrel;obtain rfl:=hw.out;have hk0:(0:Int)≤(k:Int):=by omega
  have wk:IntKind.i64.wrap ((k:Int)+1)=(k:Int)+1:=IntWalk.i64_in _ (by have:=HN40.out;omega);have lx:=HX1.out.lt;have x7:=HX1.out.cell 7;simp only[xG,xH,xI]at x7;by_cases hlt:k<c.vals.length
  ·have hlt':(k:Int)<(c.vals.length:Int):=by omega
   obtain⟨b,off,rfl,hb,hcs⟩:=HV1.out.int (by omega);have c0:=hcs k hlt;clear hcs;generalize c.vals[k]?.getD 0=x at*
   cases hi:inB x with
   |false=>
    go_wp2_with fail
    refine(r17_In x _).mono ?_
    rintro e w' ⟨rfl,rfl⟩
    dsimp only
    go_wp2_with fail
    go_roundw
    case rel=>exact⟨k+1,by omega,by go_num,hid (by first|rfl|trivial)⟩
    case measure=>simp[intOf];omega
   |true=>
   by_cases hl:x< -60
   case pos=>
    have hd1:decide (x< -60)=true:=by simpa using hl
    go_wp2_with fail;refine(r17_In x _).mono ?_;rintro e w' ⟨rfl,rfl⟩;dsimp only;go_wp2_with fail;go_ret;exact⟨_,rfl,fun _=>trivial,HB1.out⟩
   by_cases hh:60<x
   case pos=>
    have hd2:decide (60<x)=true:=by simpa using hh
    have hd1:decide (x< -60)=false:=by simpa using hl
    go_wp2_with fail;refine(r17_In x _).mono ?_;rintro e w' ⟨rfl,rfl⟩;dsimp only;go_wp2_with fail;go_ret;exact⟨_,rfl,fun _=>trivial,HB1.out⟩
   have hd2:decide (60<x)=false:=by simpa using hh
   have hd1:decide (x< -60)=false:=by simpa using hl
   go_wp2_with fail;refine(r17_In x _).mono ?_;rintro e w' ⟨rfl,rfl⟩;dsimp only;go_wp2_with fail;go_roundw;case rel=>exact⟨k+1,by omega,by go_num,hid (by first|rfl|trivial)⟩
   case measure=>simp[intOf];omega
  ·have hlt':¬(k:Int)<(c.vals.length:Int):=by omega
   go_wp2_with fail;go_ret;exact⟨_,rfl,fun _=>trivial,HB1.out⟩
theorem q_FewCmds (l:List Cmd)(v:Value)(w:World)(hl:CmsR w v l):Calls Tryz.prog 36 #[v] w (RetBo (l.length≤16) w):=by
 obtain⟨a,cap,rfl,hcap,hcm,hln⟩:=hl.form;have HL:=hid hl;clear hl;by_cases h16:16<l.length
 case pos=>
  have h16':(16:Int)<(l.length:Int):=by omega
  clear h16;go_enter Tryz.func36,Tryz.ntmps36;go_wp2_with fail;go_ret;exact⟨_,rfl,fun h=>(by cases h),Below.refl _ _⟩
 have h16':¬(16:Int)<(l.length:Int):=by omega
 have H16:Hid (l.length≤16):=by show _≤_;omega
 clear h16;go_enter Tryz.func36,Tryz.ntmps36;go_wp2_with fail;go_loopw [3] (fun i wr=>∃k:Nat,k≤l.length∧i= .int .i64 k∧Hid (Below w.heap.size w wr)) (fun i _=>l.length-(intOf i).toNat);case atStart=>exact⟨0,Nat.zero_le _,rfl,Below.refl _ _⟩
 case round=>
  obtain⟨k,hk,rfl,HB⟩:=hrel;have hk0:(0:Int)≤(k:Int):=by omega
  have wk:IntKind.i64.wrap ((k:Int)+1)=(k:Int)+1:=IntWalk.i64_in _ (by omega);by_cases hlt:k<l.length
  ·have hlt':(k:Int)<(l.length:Int):=by omega
   obtain⟨b,off,ea,ec,va,vc,rfl,hbw,hb,c0,c1,c2,c3,c4,c5,c6,c7,he,hv⟩:=HL.out.atB HB.out k hlt;have HFC:=hid (q_FewCmd (l[k]?.getD default) _ wr ⟨_,_,rfl,he.below HB.out,hv.below HB.out⟩);clear he hv;generalize l[k]?.getD default=c at*
   go_wp2_with fail;refine HFC.out.mono ?_;rintro e w1 ⟨b1,rfl,_,hB1⟩;have HB1:=hid (up HB.out hB1);clear c0 c1 c2 c3 c4 c5 c6 c7 hb hB1 HFC;dsimp only;cases b1 with
   |false=>
    go_wp2_with fail
    go_ret
    exact⟨_,rfl,fun h=>(by cases h),HB1.out⟩
   |true=>
    go_wp2_with fail
    go_roundw
    case rel=>exact⟨k+1,by omega,by go_num,HB1⟩
    case measure=>simp[intOf];omega
  ·have hlt':¬(k:Int)<(l.length:Int):=by omega
   go_wp2_with fail;go_ret;exact⟨_,rfl,fun _=>H16.out,HB.out⟩
theorem q_SameCmds (l:List Cmd)(av bv:Value)(w:World)(ha:CmsR w av l)(hb:CmsR w bv l):
 Calls Tryz.prog 42 #[av,bv] w fun e w'=>e= .returned (.bool true)∧Below w.heap.size w w':=by
 obtain⟨a,cap,rfl,hcap,hcm,hln⟩:=ha.form;obtain⟨a',cap',rfl,hcap',hcm',hln'⟩:=hb.form;have HA:=hid ha;have HBB:=hid hb;have hne:((l.length:Int)!=(l.length:Int))=false:=by simp
 clear ha hb;go_enter Tryz.func42,Tryz.ntmps42;go_wp2_with fail;go_loopw [5] (fun i wr=>∃k:Nat,k≤l.length∧i= .int .i64 k∧Hid (Below w.heap.size w wr)) (fun i _=>l.length-(intOf i).toNat);case atStart=>exact⟨0,Nat.zero_le _,rfl,Below.refl _ _⟩
 case round=>
  obtain⟨k,hk,rfl,HB⟩:=hrel;obtain⟨wo,rfl⟩:∃wo:World,wo=wr:=⟨_,rfl⟩;have hk0:(0:Int)≤(k:Int):=by omega
  have wk:IntKind.i64.wrap ((k:Int)+1)=(k:Int)+1:=IntWalk.i64_in _ (by omega);by_cases hlt:k<l.length
  ·have hlt':(k:Int)<(l.length:Int):=by omega
   obtain⟨b,off,ea,ec,va,vc,rfl,hbw,hb,c0,c1,c2,c3,c4,c5,c6,c7,he,hv⟩:=HA.out.atB HB.out k hlt;obtain⟨b',off',ea',ec',va',vc',rfl,hbw',hb',d0,d1,d2,d3,d4,d5,d6,d7,he',hv'⟩:=HBB.out.atB HB.out k hlt;have HC:=hid (fun W (h:Below w.heap.size w W)=>q_SameCmd (l[k]?.getD default) (.agg #[.int .i64 (l[k]?.getD default).kind,.string (str (l[k]?.getD default).name),.string (str (l[k]?.getD default).on),.string (str (l[k]?.getD default).other),.int .i64 (l[k]?.getD default).q,.int .i64 (l[k]?.getD default).g.n,.slice ea (l[k]?.getD default).g.es.length ec,.slice va (l[k]?.getD default).vals.length vc]) (.agg #[.int .i64 (l[k]?.getD default).kind,.string (str (l[k]?.getD default).name),.string (str (l[k]?.getD default).on),.string (str (l[k]?.getD default).other),.int .i64 (l[k]?.getD default).q,.int .i64 (l[k]?.getD default).g.n,.slice ea' (l[k]?.getD default).g.es.length ec',.slice va' (l[k]?.getD default).vals.length vc']) W ⟨_,_,rfl,he.below h,hv.below h⟩ ⟨_,_,rfl,he'.below h,hv'.below h⟩)
   have HF:Hid (∀ w':World,Below wo.heap.size wo w'→(w'.cell? ⟨b,off+k*8,none⟩=some (.int .i64 (l[k]?.getD default).kind)∧w'.cell? ⟨b,off+k*8+1,none⟩=some (.string (str (l[k]?.getD default).name))∧w'.cell? ⟨b,off+k*8+2,none⟩=some (.string (str (l[k]?.getD default).on))∧w'.cell? ⟨b,off+k*8+3,none⟩=some (.string (str (l[k]?.getD default).other))∧w'.cell? ⟨b,off+k*8+4,none⟩=some (.int .i64 (l[k]?.getD default).q)∧w'.cell? ⟨b,off+k*8+5,none⟩=some (.int .i64 (l[k]?.getD default).g.n)∧w'.cell? ⟨b,off+k*8+6,none⟩=some (.slice ea (l[k]?.getD default).g.es.length ec)∧w'.cell? ⟨b,off+k*8+7,none⟩=some (.slice va (l[k]?.getD default).vals.length vc))∧
    w'.cell? ⟨b',off'+k*8,none⟩=some (.int .i64 (l[k]?.getD default).kind)∧w'.cell? ⟨b',off'+k*8+1,none⟩=some (.string (str (l[k]?.getD default).name))∧w'.cell? ⟨b',off'+k*8+2,none⟩=some (.string (str (l[k]?.getD default).on))∧w'.cell? ⟨b',off'+k*8+3,none⟩=some (.string (str (l[k]?.getD default).other))∧w'.cell? ⟨b',off'+k*8+4,none⟩=some (.int .i64 (l[k]?.getD default).q)∧w'.cell? ⟨b',off'+k*8+5,none⟩=some (.int .i64 (l[k]?.getD default).g.n)∧w'.cell? ⟨b',off'+k*8+6,none⟩=some (.slice ea' (l[k]?.getD default).g.es.length ec')∧w'.cell? ⟨b',off'+k*8+7,none⟩=some (.slice va' (l[k]?.getD default).vals.length vc')):=fun w' h=>
    have q:=fun j=>h.cell (p:=⟨b,off+k*8+j,none⟩) hb
    have q':=fun j=>h.cell (p:=⟨b',off'+k*8+j,none⟩) hb'
    ⟨⟨(q 0).trans c0,(q 1).trans c1,(q 2).trans c2,(q 3).trans c3,(q 4).trans c4,(q 5).trans c5,(q 6).trans c6,(q 7).trans c7⟩,(q' 0).trans d0,(q' 1).trans d1,(q' 2).trans d2,(q' 3).trans d3,(q' 4).trans d4,(q' 5).trans d5,(q' 6).trans d6,(q' 7).trans d7⟩
   clear he hv he' hv' c0 c1 c2 c3 c4 c5 c6 c7 d0 d1 d2 d3 d4 d5 d6 d7;generalize l[k]?.getD default=c at*
   go_upto_region 6 with fail;let S:World→Prop:=fun w'=>Below wo.heap.size wo w'
   (refine wp_region_text 9 [0,1,2,3,4,5,6,7,8] S (by kernel_rfl) (by kernel_rfl) (by intro _ _ d _ _ h;cases d<;>exact h) ?hS ?_;rotate_left;simp only[xA,xB,xC,xD,xE,xF]);case hS=>exact Below.drew (Below.refl _ _)
   (repeat ((refine' wpSeq_take rfl _ (by rfl) ?_ ?_;rotate_left;focus(intro w' hS;(try dsimp only at hS);obtain⟨⟨s0,s1,s2,s3,s4,s5,s6,s7⟩,u0,u1,u2,u3,u4,u5,u6,u7⟩:=HF.out w' hS;go_simp;(first|done|with_reducible rfl));(try go_frame));(try go_frame)));(refine wpSeq_call rfl (by rfl) (fun K hK=> ?_);go_simp;refine(HC.out _ (up HB.out (Below.drew (Below.refl _ _)))).mono ?_;rintro e w1 ⟨rfl,hB1⟩;refine hK _ _ (up (Below.drew (Below.refl _ _)) hB1) ?_;clear hK K;(try go_frame));refine wpSeq_nil ?_;clear S;go_wp2_with fail;go_roundw;case rel=>exact⟨k+1,by omega,by go_num,up HB.out (up (Below.drew (Below.refl _ _)) hB1)⟩
   case measure=>simp[intOf];omega
  ·have hlt':¬(k:Int)<(l.length:Int):=by omega
   go_wp2_with fail;go_ret;exact⟨rfl,HB.out⟩
theorem journal_ok {l:List Cmd}(h:∀c∈l,(textR c).1=0)(hl:l.length≤16):journalR l=(0,journalT l)∧(journalT l).length≤65648:=by
 have h1:=journalT_len h;refine⟨?_,by omega⟩;unfold journalR;rw[if_neg (by omega),if_neg (by rw[textsErr_of h];simp),if_neg (by omega)]
theorem replay_back {l:List Cmd}(h:∀c∈l,(textR c).1=0)(hl:l.length≤16):replayP (journalT l)=(l,0,0):=by
 have h1:=(journal_ok h hl).2;unfold replayP;rw[if_neg (by omega),journal_back h (by omega)];simp
theorem und_u16:Tryz.prog.underlying 92=some (.int .u16):=by kernel_rfl
theorem u16_lo {n:Int}(h:(Lit.int IntKind.u16 n).wf=true):0≤n:=by
 have e:IntKind.u16.min=0:=rfl;simp[Lit.wf,e]at h;omega
theorem u16_hi {n:Int}(h:(Lit.int IntKind.u16 n).wf=true):n<65536:=by
 have e:IntKind.u16.max=65535:=rfl;simp[Lit.wf,e]at h;omega
theorem CmsR.take {w:World}{a:Option Addr}{n cap:Nat}{l:List Cmd}(h:CmsR w (.slice a n cap) l)(k:Nat)(hk:k≤l.length):CmsR w (.slice a k cap) (l.take k):=by
 obtain⟨a',cap',cs,e,h1,h2,h3,h4,h5,h6⟩:=h;injection e with e1 e2 e3
 subst e1 e3;have hkl:(l.take k).length=k:=by rw[List.length_take,Nat.min_eq_left hk]
 refine⟨a,cap,cs.take (k*8),by rw[hkl],by omega,h2,by omega,?_,by rw[List.length_take,hkl];omega,fun j hj=> ?_⟩
 ·rcases h4 with h4|⟨b,off,e,hb,hc⟩
  ·exact .inl (by rw[h4];simp)
  ·refine .inr ⟨b,off,e,hb,fun i hi=> ?_⟩
   rw[List.length_take]at hi;rw[hc i (by omega),List.getElem?_take_of_lt (by omega)]
 ·rw[hkl]at hj
  have:=h6 j (by omega);rw[List.getElem?_take_of_lt hj];have e:((cs.take (k*8)).drop (j*8)).take 8=(cs.drop (j*8)).take 8:=by
   rw[List.drop_take,List.take_take];congr 1;omega
  rw[e];exact this
theorem tears {l:List Cmd}(h:∀c∈l,(textR c).1=0)(hl:l.length≤16)(m:Nat)(hm:m≤(journalT l).length):∃k,k≤l.length∧repairP ((journalT l).take m)=journalT (l.take k)∧(journalT (l.take k)).length≤m∧((journalT l).take m).take (journalT (l.take k)).length=journalT (l.take k)∧
 replayP (journalT (l.take k))=(l.take k,0,0)∧(k=l.length→journalT (l.take k)=journalT l)∧(k<l.length→journalR (l.take (k+1))=(0,journalT (l.take (k+1)))∧m<(journalT (l.take (k+1))).length):=by
 obtain⟨k,tail,h1,h2,h3,h4,h5⟩:=journal_cut l m h;have hT:∀j,∀c∈l.take j,(textR c).1=0:=fun j c hc=>h c (List.mem_of_mem_take hc);have hL:∀j,(l.take j).length≤16:=fun j=>by rw[List.length_take];omega
 have hJ:=(journal_ok h hl).2;have hml:((journalT l).take m).length=m:=by rw[List.length_take];omega
 have hb:=lines_back (l.take k) [] tail (m+1) (hT k) h3 (by have:=hL k;simp only[List.length_nil];omega) (by rw[← h2,hml];omega);have e1:=congrArg List.length h2;rw[hml,List.length_append]at e1;refine⟨k,h1,?_,by omega,by rw[h2,List.take_left],replay_back (hT k) (hL k),fun e=>by rw[e,List.take_length],fun hk=>⟨(journal_ok (hT _) (hL _)).1,by have:=h4 hk;omega⟩⟩;unfold repairP keptP;rw[List.take_of_length_le (by omega:((journalT l).take m).length≤262144),hml,h2,hb];rw[show m-tail.length=(journalT (l.take k)).length by omega,List.take_left]
theorem l_Tears (l:List Cmd)(v:Value)(n:Int)(w:World)(hE:EnvS w)(hl:CmsR w v l)(hm:∀k,k<l.length→SmCmd (l[k]?.getD default))(hn0:0≤n)(hn1:n<65536):
 Calls Tryz.prog 10 #[v,.int .u16 n] w fun e w'=>e= .returned (.bool true)∧Below w.heap.size w w':=by
 have HE:=hid hE;have HM:=hid hm;have HL:=hid hl;obtain⟨a,cap,rfl,hcap,hcm,hln⟩:=hl.form;clear hE hm hl;go_enter Tryz.func10,Tryz.ntmps10;go_wp2_with fail;refine(l_commands l _ w HL.out).mono ?_;rintro e w1 ⟨v1,rfl,hv1,hB1⟩;have HB1:=hid hB1;have HV1:=hid hv1;obtain⟨a1,cap1,rfl,_⟩:=hv1.form;clear hB1 hv1;dsimp only;go_wp2_with fail;refine(q_FewCmds l _ w1 HV1.out).mono ?_;rintro e w2 ⟨b,rfl,hb,hB2⟩;have HB2:=hid (up HB1.out hB2);have HN:=hid hb;clear hB2 hb HB1 HV1;dsimp only;cases b with
 |false=>
  go_wp2_with fail
  refine(l_awakeS w2 (HE.out.below HB2.out)).mono ?_
  rintro e w3 ⟨rfl,hB3⟩
  have HB3:=hid (up HB2.out hB3)
  dsimp only
  go_wp2_with fail
  go_ret
  exact⟨rfl,HB3.out⟩
 |true=>
 have H16:Hid (l.length≤16):=HN.out rfl;clear HN;have hJ:=fun W (h:Below w.heap.size w W)=>s_Journal l (.slice a l.length cap) W (HE.out.below h).env (HL.out.below h) HM.out;by_cases ht:textsErr l=0
 case neg=>
  have hj:journalR l=(textsErr l,[]):=by unfold journalR;rw[if_neg (by have:=H16.out;omega),if_pos ht]
  rw[hj]at hJ;have hb:(textsErr l !=0)=true:=by simpa using ht
  have HJ:=hid hJ;clear hJ hj ht;generalize textsErr l=te at*
  unfold limV at HJ;dsimp only at HJ;go_wp2_with fail;refine(HJ.out _ HB2.out).mono ?_;rintro e w3 ⟨rfl,hB3⟩;have HB3:=hid (up HB2.out hB3);clear hB3;dsimp only;go_wp2_with fail;refine(l_awakeS w3 (HE.out.below HB3.out)).mono ?_;rintro e w4 ⟨rfl,hB4⟩;have HB4:=hid (up HB3.out hB4);dsimp only;go_wp2_with fail;go_ret;exact⟨rfl,HB4.out⟩
 have hok:=textsErr_zero ht;have hjo:=journal_ok hok H16.out;rw[hjo.1]at hJ;have HJ:=hid hJ;unfold limV at HJ;dsimp only at HJ;obtain⟨m,hm1,hm2⟩:∃m:Nat,n.tmod (((journalT l).length:Int)+1)=(m:Int)∧m≤(journalT l).length:=by
  have h1:0≤n.tmod (((journalT l).length:Int)+1):=Int.tmod_nonneg _ hn0;have h2:n.tmod (((journalT l).length:Int)+1)<((journalT l).length:Int)+1:=Int.tmod_lt_of_pos _ (by omega);exact⟨(n.tmod (((journalT l).length:Int)+1)).toNat,by omega,by omega⟩
 obtain⟨k,hk,hr1,hr2,hr3,hr4,hr5,hr6⟩:=tears hok H16.out m hm2;have HX:Hid ((str (journalT l)).extract 0 m=str ((journalT l).take m)):=by show _=_;rw[str_extract];simp
 have hY:(str ((journalT l).take m)).extract 0 (journalT (l.take k)).length=str (journalT (l.take k)):=by rw[str_extract];simp[hr3]
 have hmL:((journalT l).take m).length=m:=by rw[List.length_take];omega
 have hlk:(l.take k).length=k:=by rw[List.length_take,Nat.min_eq_left hk]
 have hRP:=fun W (h:Below w.heap.size w W)=>s_Repair ((journalT l).take m) W (HE.out.below h) (by omega);rw[hr1]at hRP;have hRR:=fun W (h:Below w.heap.size w W)=>s_Replay (journalT (l.take k)) W (HE.out.below h) (by omega);rw[hr4]at hRR;have HRP:=hid hRP;have HRR:=hid hRR;have HLK:=hid (HL.out.take k hk);have HGJ:=hid hr5;have hMO:k<l.length→∃M:List UInt8,m<M.length∧∀W,Below w.heap.size w W→Calls Tryz.prog 38 #[.slice a (k+1) cap] W fun e w'=>e= .returned (.tuple #[.string (str M),.int .i64 0])∧Below W.heap.size W w':=fun hkl=>by
  obtain⟨q1,q2⟩:=hr6 hkl;refine⟨_,q2,fun W h=> ?_⟩;have hs:=s_Journal (l.take (k+1)) (.slice a (k+1) cap) W (HE.out.below h).env ((HL.out.take (k+1) hkl).below h) fun j hj=>by
   rw[List.length_take]at hj;rw[List.getElem?_take_of_lt (by omega)];exact HM.out j (by omega)
  rw[q1]at hs;exact hs
 have HMO:=hid hMO;have hcv:IntKind.i64.wrap n=n:=IntWalk.i64_in _ (by omega);have hjl:=hjo.2;have hwr:IntKind.i64.wrap (((journalT l).length:Int)+1)=((journalT l).length:Int)+1:=IntWalk.i64_in _ (by omega);have hmn:(m:Int)≤((journalT l).length:Int):=by omega
 have hm0:(0:Int)≤(m:Int):=by omega
 have hgm:decide (((m:Nat):Int)<((journalT (l.take k)).length:Int))=false:=by simp;omega
 have hgm2:((journalT (l.take k)).length:Int)≤(m:Int):=by omega
 have hkI:decide ((l.length:Int)<(k:Int))=false:=by simp;omega
 have hkN:decide (l.length<k)=false:=by simp;omega
 have hgN:decide (m<(journalT (l.take k)).length)=false:=by simp;omega
 have hkc:(k:Int)≤(cap:Int):=by omega
 have hk0:(0:Int)≤(k:Int):=by omega
 have z1:=str_size (journalT l);have z2:=str_size ((journalT l).take m);have z3:=str_size (journalT (l.take k));rw[hmL]at z2;have HM2:=hid hm2;have HK:=hid hk;clear hJ ht hok hjo hr1 hr2 hr3 hr4 hr5 hr6 hRP hRR hMO hn0 hn1 hmL hm2 hk;generalize (journalT l).take m=C at*
 generalize journalT (l.take k)=G at*
 generalize journalT l=J at*
 generalize l.take k=lk at*
 go_wp2_with fail;refine(HJ.out _ HB2.out).mono ?_;rintro e w3 ⟨rfl,hB3⟩;have HB3:=hid (up HB2.out hB3);clear hB3;dsimp only;go_upto_region 7 with fail;rw[HX.out];go_wp2_with fail;refine(HRP.out _ HB3.out).mono ?_;rintro e w4 ⟨rfl,hB4⟩;have HB4:=hid (up HB3.out hB4);clear hB4;dsimp only;go_wp2_with fail;refine(HRR.out _ HB4.out).mono ?_;rintro e w5 ⟨a5,cap5,rfl,hc5,hB5⟩;dsimp only at hc5⊢;rw[hlk]at hc5⊢;have HB5:=hid (up HB4.out hB5);have HC5:=hid hc5;clear hB5 hc5;go_upto_region 11 with fail;let S:World→Prop:=fun w'=>Below w5.heap.size w5 w'
 (refine wp_region_pre 2 20 [0,1,2,3,4,5,6,7,8,9,10,11,12,13,14,16,17,18,19] [15] S (by kernel_rfl) (by kernel_rfl) (by intro _ _ d _ _ h;cases d<;>exact h) ?_;simp only[xA,xB,xC,xD,xE,xF]);(repeat ((refine' wpSeq_take rfl _ (by rfl) ?_ ?_;rotate_left;focus(intro w' hS;(try dsimp only at hS);skip;go_simp;(first|done|with_reducible rfl));(try go_frame));(try go_frame)));refine wpSeq_nil ⟨Below.drew (Below.refl _ _),?_⟩;(refine wpSeq_call rfl (by rfl) (fun K hK=> ?_);go_simp;refine(l_commands lk _ _ (HC5.out.below (Below.drew (Below.refl _ _)))).mono ?_;rintro e q1 ⟨u1,rfl,hu1,hz⟩;refine hK _ _ (up (Below.drew (Below.refl _ _)) hz) ?_;clear hK K;(try go_frame))
 have HQ1:Hid (Below w5.heap.size w5 q1):=up (Below.drew (Below.refl _ _)) hz;have HU1:=hid hu1;clear hz hu1;refine wpSeq_nil ?_;clear S;have HB6:=hid (up HB5.out HQ1.out);clear HQ1;go_wp2_with fail;refine(l_commands lk _ _ (HLK.out.below HB6.out)).mono ?_;rintro e q2 ⟨u2,rfl,hu2,hz⟩;have HB7:=hid (up HB6.out hz);have HU3:=hid (HU1.out.below hz);have HU2:=hid hu2;clear hz hu2 HU1;dsimp only;go_wp2_with fail;refine(q_SameCmds lk _ _ _ HU3.out HU2.out).mono ?_;rintro e q3 ⟨rfl,hz⟩;have HB9:=hid (up HB7.out hz);clear hz HU2 HU3 HB6 HB7;dsimp only;by_cases hkl:k=l.length
 case pos=>
  have hke:((k:Int)==(l.length:Int))=true:=by simp[hkl]
  have hge:((str G).toList==(str J).toList)=true:=by rw[HGJ.out hkl];simp
  clear hkl;go_wp2_with fail;refine(l_awakeS _ (HE.out.below HB9.out)).mono ?_;rintro e w10 ⟨rfl,hB10⟩;have HB10:=hid (up HB9.out hB10);dsimp only;go_wp2_with fail;go_ret;exact⟨rfl,HB10.out⟩
 case neg=>
  have hke:((k:Int)==(l.length:Int))=false:=by simp;omega
  have hk1:k<l.length:=by have:=HK.out;omega
  obtain⟨M,hM1,hM2⟩:=HMO.out hk1;have HM2':=hid hM2;have wk:IntKind.i64.wrap ((k:Int)+1)=(k:Int)+1:=IntWalk.i64_in _ (by omega);have hk1c:(k:Int)+1≤(cap:Int):=by omega
  have hk1p:(0:Int)≤(k:Int)+1:=by omega
  have hMd:decide ((m:Int)<(M.length:Int))=true:=by simp;omega
  have hMN:decide (m<M.length)=true:=by simp;omega
  have z4:=str_size M;clear hM1 hM2 hkl hk1;go_wp2_with fail;refine(HM2'.out _ HB9.out).mono ?_;rintro e w10 ⟨rfl,hB10⟩;have HB10:=hid (up HB9.out hB10);clear hB10;dsimp only;go_wp2_with fail;refine(l_awakeS _ (HE.out.below HB10.out)).mono ?_;rintro e w11 ⟨rfl,hB11⟩;have HB11:=hid (up HB10.out hB11);dsimp only;go_wp2_with fail;go_ret;exact⟨rfl,HB11.out⟩
end Go.Proofs.YtclgllmipcbagaaGreatDoor
