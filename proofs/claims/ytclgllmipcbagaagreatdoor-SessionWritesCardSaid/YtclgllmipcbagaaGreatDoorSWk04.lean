/-
  Parts of the proof: XY5 XN32 XN33 XN34 XN36 XN37
-/
import Derived.Test.YtclgllmipcbagaaGreatDoorBk19
import Derived.Test.YtclgllmipcbagaaGreatDoorBk17
import Derived.Test.YtclgllmipcbagaaGreatDoorSWk03
import Derived.Test.YtclgllmipcbagaaGreatDoorSWk01
import Derived.Test.YtclgllmipcbagaaGreatDoorSWk00
namespace Go.Proofs.YtclgllmipcbagaaGreatDoor
open Go.RowKit
set_option linter.unusedVariables false
set_option linter.unusedSimpArgs false
set_option maxRecDepth 100000
set_option maxHeartbeats 16000000
theorem und_strsY:Tryz.prog.underlying 103=some (.slice 9):=by kernel_rfl
theorem info_strY:(Tryz.prog.info? 9).map (fun i=>(i.zero,i.size,i.bytes))=some (some (.string ⟨#[]⟩),1,16):=by kernel_rfl
theorem owns_new1Y (w:World)(u:Value)(e:TypeId):(w.alloc (.cells #[u] e)).ownsRow w.heap.size e 1 (.slice (some ⟨w.heap.size,0,none⟩) 1 1) 1 [u]:=by
 have hb:=Blk.new w #[u] e;exact⟨rfl,.inr ⟨w.heap.size,1,#[u],rfl,Nat.le_refl _,hb,Nat.le_refl _,by unfold maxLen;omega,rfl,rfl⟩⟩
theorem parts_pos (l:List UInt8):0<(parts32 l).length:=by
 obtain⟨p,q,e⟩:=parts32_form l;rw[e];simp
theorem parts_le (l:List UInt8):(parts32 l).length≤l.length+1:=by
 rw[parts_len];have:=List.count_le_length (a:=(32:UInt8)) (l:=l);omega
theorem q_split (l:List UInt8)(w:World)(hl:l.length≤1000000):
 Calls Tryz.prog 117 #[.string (str l)] w fun e w'=>∃v,e= .returned v∧w'.ownsRow w.heap.size 9 1 v (parts32 l).length ((parts32 l).map fun p=>Value.string (str p))∧Below w.heap.size w w':=by
 have hz:=str_size l;obtain⟨i0,hi,hz0,hz1,hz2⟩:=info_parts info_strY;have HN:=hid (owns_new1Y w (.string ⟨#[]⟩) 9);have HB0:Hid (Below w.heap.size w (w.alloc (.cells #[.string ⟨#[]⟩] 9))):=by show Below _ _ _;go_grown
 go_enter Tryz.func117,Tryz.ntmps117;go_wp2_with fail;go_loopw [4,3] (fun i u wr=>∃k:Nat,k≤l.length∧i= .int .i64 k∧Hid (wr.ownsRow w.heap.size 9 1 u (parts32 (l.take k)).length ((parts32 (l.take k)).map fun p=>Value.string (str p)))∧Hid (Below w.heap.size w wr)) (fun i _ _=>l.length-(intOf i).toNat);case atStart=>exact⟨0,Nat.zero_le _,rfl,HN.out,HB0.out⟩
 case round=>
  clear HN HB0;obtain⟨k,hk,rfl,HO,HB⟩:=hrel;obtain⟨wo,rfl⟩:∃wo:World,wo=wr:=⟨_,rfl⟩;have hk0:(0:Int)≤(k:Int):=by omega
  have hple:(parts32 (l.take k)).length≤k+1:=by have:=parts_le (l.take k);rw[List.length_take]at this;omega
  have hpp:=parts_pos (l.take k);by_cases hlt:k<l.length
  ·have hlt':(k:Int)<(l.length:Int):=by omega
   have wk:IntKind.i64.wrap ((k:Int)+1)=(k:Int)+1:=IntWalk.i64_in _ (by omega);have hkt:k<(str l).size:=by omega
   have hgx:(str l)[k]'hkt=l[k]?.getD 0:=by rw[str_at,List.getElem?_eq_getElem hlt];rfl
   have htk:l.take (k+1)=l.take k++[l[k]?.getD 0]:=by rw[List.take_succ_eq_append_getElem hlt,List.getElem?_eq_getElem hlt];rfl
   have HTK:=hid htk;have hs:=HB.out.size;obtain⟨g,cap,hu,hgb⟩:=owns_some HO.out hpp;clear htk;generalize l[k]?.getD 0=x at*
   by_cases hx:x=32
   ·subst hx
    have hsb:=parts32_snocB (l.take k);have HSB:Hid (parts32 (l.take (k+1))=parts32 (l.take k)++[[]]):=by show _=_;rw[HTK.out];exact hsb
    generalize parts32 (l.take k)=ps at*
    clear hsb hu hgb;go_wp2_with (at_builtin;refine wpList_append_own _ rfl _ _ 103 rfl w.heap.size 9 i0 _ 1 16 und_strsY hi hz0 hz1 hz2 rfl (by decide) _ ps.length _ rfl (HO.out.alloc _) ⟨wo.heap.size,0,none⟩ 1 1 [.string ⟨#[]⟩] rfl rfl ?q1 ?q5 ?q2 ?q3 ?q4 ?_)
    case q1=>
     intro j v h;have:=cell_one_new wo (.string ⟨#[]⟩) 9 j v h;simpa using this
    case q5=>simp[Value.oneCell']
    case q2=>unfold maxLen;omega
    case q3=>omega
    case q4=>first|omega|(simp;omega)
    intro v' w2 hown2 hgr2 _;have HO2:=hid hown2;have HB2:Hid (Below w.heap.size w w2):=((HB.out.alloc hs _).grown hgr2 (by simp;omega) (fun q hq=>by have:=(HO.out.lt q hq).1;omega));clear hown2 hgr2;go_wp2_with fail;go_roundw;case rel=>exact⟨k+1,by omega,by go_num,hid (by rw[HSB.out];have h:=HO2.out;simpa[show str []=(⟨#[]⟩:ByteArray)from rfl]using h),HB2⟩
    case measure=>simp[intOf];omega
   ·obtain⟨m,hm⟩:∃m,(parts32 (l.take k)).length=m+1:=⟨(parts32 (l.take k)).length-1,by omega⟩
    have HSN:Hid (parts32 (l.take (k+1))=lastApp (parts32 (l.take k)) x):=by show _=_;rw[HTK.out];exact parts32_snoc hx (l.take k)
    have HXS:Hid ((str l).extract k (k+1)=str [x]):=by
     show _=_;rw[str_extract,show k+1-k=1 by omega,List.drop_eq_getElem_cons hlt,←hgx];rfl
    have hxb:((x.toNat:Int)==32)=false:=by
     have:x.toNat≠32:=fun e=>hx (UInt8.toNat_inj.1 e);simp;omega
    have hpl:((parts32 (l.take k))[m]?.getD []).length≤1000000:=by
     rw[List.getElem?_eq_getElem (by omega)];have:=part_len (l.take k) _ (List.getElem_mem (show m<(parts32 (l.take k)).length by omega));rw[List.length_take]at this;show(parts32 (l.take k))[m].length≤_;omega
    generalize parts32 (l.take k)=ps at*
    have HM:=hid hm;have ho:=HO.out;rw[hm]at hu ho hple hpp;clear HO;have HO:=hid ho;clear ho;subst hu;have hcell:wo.cell? ⟨g,m,none⟩=some (.string (str (ps[m]?.getD []))):=by
     obtain⟨av,cv,e,_,_,hca⟩:=owns_at HO.out;injection e with e1
     subst e1;rcases hca with h|⟨b,off,e2,_,hc⟩
     ·have:=congrArg List.length h
      simp[HM.out]at this
     ·injection e2 with e2
      injection e2 with e2 e3
      subst e2 e3;have:=hc m (by rw[List.length_map,HM.out];omega);rw[Nat.zero_add]at this;rw[this,List.getElem?_map,List.getElem?_eq_getElem (by rw[HM.out];omega)];rfl
    have hgl:=(owns_lt HO.out).2;have hgf:wo.frozen? ⟨g,m,none⟩=false:=by
     rcases HO.out.2 with ⟨e,_⟩|⟨g',cap',cur,e,_,hg,_⟩
     ·cases e
     ·injection e with e
      injection e with e
      injection e with e _ _
      subst e;exact Blk.frozen (cs:=cur) (t:=9) hg m
    have wm:IntKind.i64.wrap (m:Int)=(m:Int):=IntWalk.i64_in _ (by omega);have hmI:(m:Int)<(m:Int)+1:=by omega
    have hkI:(k:Int)+1≤(l.length:Int):=by omega
    have hkk:(k:Int)≤(k:Int)+1:=by omega
    have hm0:(0:Int)≤(m:Int):=by omega
    generalize hlast:ps[m]?.getD []=la at*
    have HLA:=hid hlast;clear hx hlast hm;go_upto_region 7 with fail;let S:World→Prop:=fun w'=>Below wo.heap.size wo w'
    (refine wp_region_pre 2 11 [0,1,2,3,4,6,7,8,9,10] [5] S (by kernel_rfl) (by kernel_rfl) (by intro _ _ d _ _ h;cases d<;>exact h) ?_;simp only[xA,xB,xC,xD,xE,xF]);(repeat ((refine' wpSeq_take rfl _ (by rfl) ?_ ?_;rotate_left;focus(intro w' hS;(try dsimp only at hS);skip;go_simp;(first|done|with_reducible rfl));(try go_frame));(try go_frame)));refine wpSeq_nil ⟨Below.drew (Below.refl _ _),?_⟩;(repeat ((refine' wpSeq_take rfl _ (by rfl) ?_ ?_;rotate_left;focus(intro w' hS;(try dsimp only at hS);have q0:w'.cell? ⟨g,m,none⟩=_:=(Below.cell hS (p:=⟨g,m,none⟩) hgl).trans hcell;go_simp;(first|done|with_reducible rfl));(try go_frame));(try go_frame)))
    refine wpSeq_nil ?_;clear S;have zla:=str_size la;have zx:(str [x]).size=1:=str_size [x];have hgl2:g<(wo.drew).heap.size:=hgl;have hgf2:(wo.drew).frozen? ⟨g,m,none⟩=false:=hgf;have hcell2:(wo.drew).cell? ⟨g,m,none⟩=some (.string (str la)):=hcell;rw[HXS.out];go_wp2_with fail;rw[str_two];have HO2:=hid (owns_set (f:=fun p=>Value.string (str p)) (owns_below HO.out (Below.drew (Below.refl _ _))) m (la++[x]));have HB2:Hid (Below w.heap.size w ((wo.drew).setCell ⟨g,m,none⟩ (.string (str (la++[x]))))):=(up HB.out (Below.drew (Below.refl _ _))).setCell (p:=⟨g,m,none⟩) hgb.1 _;go_roundw
    case rel=>
     refine⟨k+1,by omega,by go_num,?_,HB2⟩;show World.ownsRow _ _ _ _ _ _ _;have h:=HO2.out;rw[HSN.out];unfold lastApp;rw[HM.out,Nat.add_sub_cancel,HLA.out,List.length_set,HM.out];exact h
    case measure=>simp[intOf];omega
  ·obtain rfl:k=l.length:=by omega
   have hlt':¬(l.length:Int)<(l.length:Int):=by omega
   have ho:=HO.out;rw[List.take_length]at ho;have HO2:=hid ho;clear ho HO hple hpp;go_wp2_with fail;go_ret;exact⟨_,rfl,HO2.out,HB.out⟩
def Rk (w:World)(b tb:Nat)(L:List Tok)(s:Rs):Prop:=
 TsOk s.ts∧TsOk L∧∃off cap j,s.ts=L.drop j∧Blk w b #[.slice (some ⟨tb,off,none⟩) L.length cap,.int .i64 ((j:Nat):Int),.int .i64 s.e,.int .i64 s.pl] 242∧tb≠b∧ToksR w (.slice (some ⟨tb,off,none⟩) L.length cap) L
theorem Rk.lt {w:World}{b tb:Nat}{L:List Tok}{s:Rs}(h:Rk w b tb L s):b<w.heap.size:=by obtain⟨_,_,_,_,_,_,hb,_⟩:=h;exact hb.lt
theorem Rk.below {w w':World}{b tb:Nat}{L:List Tok}{s:Rs}(h:Rk w b tb L s)(hB:Below w.heap.size w w'):Rk w' b tb L s:=by
 obtain⟨h0,h1,off,cap,j,h2,hb,hne,ht⟩:=h;exact⟨h0,h1,off,cap,j,h2,hb.below hB,hne,ht.below hB⟩
theorem Rk.grownR {w w':World}{b tb:Nat}{L:List Tok}{s:Rs}{r:Option Nat}(h:Rk w b tb L s)(hg:w.grownBy w' r)(h1:r≠some b)(h2:r≠some tb):Rk w' b tb L s:=by
 obtain⟨a0,a1,off,cap,j,e,hb,hne,ht⟩:=h;exact⟨a0,a1,off,cap,j,e,hb.grown hg h1,hne,ht.grownR hg (fun x hx=>by cases hx;exact Ne.symm h2)⟩
theorem Rk.frozen {w:World}{b tb:Nat}{L:List Tok}{s:Rs}(h:Rk w b tb L s)(k:Nat):w.frozen? ⟨b,k,none⟩=false:=by obtain⟨_,_,_,_,_,_,hb,_⟩:=h;exact hb.frozen k
theorem Rk.cells {w:World}{b tb:Nat}{L:List Tok}{s:Rs}(h:Rk w b tb L s):
 ∃off cap j,tb<w.heap.size∧tb≠b∧j<L.length∧L.length≤4097∧L.length≤cap∧cap≤9223372036854775807∧s.ts=L.drop j∧w.cell? ⟨b,0,none⟩=some (.slice (some ⟨tb,off,none⟩) L.length cap)∧w.cell? ⟨b,1,none⟩=some (.int .i64 ((j:Nat):Int))∧
  w.cell? ⟨b,2,none⟩=some (.int .i64 s.e)∧w.cell? ⟨b,3,none⟩=some (.int .i64 s.pl)∧w.cell? ⟨tb,off+j*3,none⟩=some (.int .i64 s.now.kind)∧w.cell? ⟨tb,off+j*3+1,none⟩=some (.string (str s.now.text))∧w.cell? ⟨tb,off+j*3+2,none⟩=some (.int .i64 s.now.pos):=by
 obtain⟨h0,h1,off,cap,j,e,hb,hne,ht⟩:=h;obtain⟨a',cap',e2,h2,h3,h4,h5⟩:=ht;injection e2 with e1 e2 e3
 subst e1 e3;have hj:j<L.length:=by have:=h0.1;rw[e,List.length_drop]at this;omega
 obtain⟨b',off',e4,hlt,hc⟩:=h5.tok (by omega);obtain⟨rfl,rfl⟩:tb=b'∧off=off':=by simpa using e4
 obtain⟨c0,c1,c2⟩:=hc j hj;have hn:s.now=L[j]?.getD default:=by unfold Rs.now;rw[e,List.getElem?_drop];simp
 have d0:=hb.cell 0;have d1:=hb.cell 1;have d2:=hb.cell 2;have d3:=hb.cell 3;simp only[xG,xH,xI]at d0 d1 d2 d3;rw[hn];exact⟨off,cap,j,hlt,hne,hj,h1.2.1,h2,h3,e,d0,d1,d2,d3,c0,c1,c2⟩
theorem load_tok3 {w:World}{b:Nat}{v0 v1 v2:Value}(h:Blk w b #[v0,v1,v2] 307):(loadVar 307 ⟨b,0,none⟩).run Tryz.prog w= .ok (.agg #[v0,v1,v2]) w:=by
 have hlt:=h.lt;have c0:=h.cell 0;have c1:=h.cell 1;have c2:=h.cell 2;simp only[xG,xH,xI]at c0 c1 c2;go_simp
theorem q_now (w:World)(b tb:Nat)(L:List Tok)(s:Rs)(h:Rk w b tb L s):
 Calls Tryz.prog 307 #[.pointer (some ⟨b,0,none⟩)] w fun e w'=>e= .returned (.agg #[.int .i64 s.now.kind,.string (str s.now.text),.int .i64 s.now.pos])∧Below w.heap.size w w':=by
 obtain⟨off,cap,j,hlt,hne,hj,hl,h2,h3,_,d0,d1,d2,d3,c0,c1,c2⟩:=h.cells;have hbl:=h.lt;generalize s.now=t at*
 generalize L.length=n at*
 have hj1:(j:Int)<(n:Int):=by omega
 have hj0:(0:Int)≤(j:Int):=by omega
 clear d2 d3 h
 have hcl:Hid (∀ W',Below w.heap.size w W'→W'.cell? ⟨b,0,none⟩=some (.slice (some ⟨tb,off,none⟩) n cap)∧W'.cell? ⟨b,1,none⟩=some (.int .i64 ((j:Nat):Int))∧W'.cell? ⟨tb,off+j*3,none⟩=some (.int .i64 t.kind)∧W'.cell? ⟨tb,off+j*3+1,none⟩=some (.string (str t.text))∧W'.cell? ⟨tb,off+j*3+2,none⟩=some (.int .i64 t.pos)∧b<W'.heap.size∧tb<W'.heap.size):=fun W' hB=>
  ⟨(hB.cell (p:=⟨b,0,none⟩) hbl).trans d0,(hB.cell (p:=⟨b,1,none⟩) hbl).trans d1,(hB.cell (p:=⟨tb,_,none⟩) hlt).trans c0,(hB.cell (p:=⟨tb,_,none⟩) hlt).trans c1,(hB.cell (p:=⟨tb,_,none⟩) hlt).trans c2,Nat.lt_of_lt_of_le hbl hB.size,Nat.lt_of_lt_of_le hlt hB.size⟩
 have HB0:=hid ((Below.refl w.heap.size w).alloc (Nat.le_refl _) (.cells #[.int .i64 0,.string {data:= #[]},.int .i64 0] 307));have HX0:=hid (Blk.new w #[.int .i64 0,.string {data:= #[]},.int .i64 0] 307);clear d0 d1 c0 c1 c2 hbl hlt;go_enter Tryz.func307,Tryz.ntmps307;go_upto_region 1 with fail;generalize w.alloc (.cells #[.int .i64 0,.string {data:= #[]},.int .i64 0] 307)=W0 at*
 let S:World→Prop:=fun W'=>Hid (Below w.heap.size w W')
 (refine wp_region_text 10 [0,1,2,3,4,5,6,7,8,9] S (by kernel_rfl) (by kernel_rfl) (by intro _ _ d _ _ h;cases d<;>exact h) ?hS ?_;rotate_left;simp only[xA,xB,xC,xD,xE,xF]);case hS=>exact Below.drew HB0.out
 (repeat ((refine' wpSeq_take rfl _ (by rfl) ?_ ?_;rotate_left;focus(intro w' hS;(try dsimp only at hS);obtain⟨s0,s1,s2,s3,s4,s5,s6⟩:=hcl.out _ hS.out;go_simp;(first|done|with_reducible rfl));(try go_frame));(try go_frame)));refine wpSeq_nil ?_;clear S;have x0:=HX0.out.cell 0;have x1:=HX0.out.cell 1;have x2:=HX0.out.cell 2;simp only[xG,xH,xI]at x0 x1 x2;have f0:=HX0.out.frozen 0;have f1:=HX0.out.frozen 1;have f2:=HX0.out.frozen 2;have xl:=HX0.out.lt;go_wp2_with fail;have HX1:=hid (((HX0.out.set 0 (.int .i64 t.kind)).set 1 (.string (str t.text))).set 2 (.int .i64 t.pos));refine bodyPost_ret (results_cell1' rfl rfl (load_tok3 (Blk.drew HX1.out))) rfl ?_
 exact⟨rfl,((((HB0.out.setCell (Nat.le_refl _) _).setCell (Nat.le_refl _) _).setCell (Nat.le_refl _) _).drew)⟩
theorem Rk.adv {w:World}{b tb j:Nat}{L:List Tok}{s:Rs}(h:Rk w b tb L s)(hc:w.cell? ⟨b,1,none⟩=some (.int .i64 ((j:Nat):Int)))(hk:s.now.kind≠3):
 Rk (w.setCell ⟨b,1,none⟩ (.int .i64 ((j:Int)+1))) b tb L s.skip∧TsOk s.skip.ts:=by
 obtain⟨h0,h1,off,cap,j',e,hb,hne,ht⟩:=h;have d1:=hb.cell 1;simp only[xG,xH,xI]at d1;rw[hc]at d1;have e3:(j:Int)=(j':Int):=by simpa using d1
 obtain rfl:j=j':=by omega
 have hs:=h0.drop hk;refine⟨⟨hs,h1,off,cap,j+1,?_,?_,hne,ht.grown (grown_set _ _ _ _) (fun x hx=>by cases hx;exact hne)⟩,hs⟩
 ·show s.ts.drop 1=_
  rw[e,List.drop_drop]
 ·have:=hb.set 1 (.int .i64 ((j:Int)+1))
  have e2:((j+1:Nat):Int)=(j:Int)+1:=by omega
  rw[e2];show Blk _ _ #[_,_,.int .i64 s.e,.int .i64 s.pl] _;simpa only[xM,xJ,xK]using this
theorem Rk.set2 {w:World}{b tb:Nat}{L:List Tok}{s:Rs}(h:Rk w b tb L s)(k:Int):Rk (w.setCell ⟨b,2,none⟩ (.int .i64 k)) b tb L ⟨s.ts,k,s.pl⟩:=by
 obtain⟨h0,h1,off,cap,j,e,hb,hne,ht⟩:=h;refine⟨h0,h1,off,cap,j,e,?_,hne,ht.grown (grown_set _ _ _ _) (fun x hx=>by cases hx;exact hne)⟩;have:=hb.set 2 (.int .i64 k);simpa only[xM,xJ,xK]using this
theorem Rk.set3 {w:World}{b tb:Nat}{L:List Tok}{s:Rs}(h:Rk w b tb L s)(k:Int):Rk (w.setCell ⟨b,3,none⟩ (.int .i64 k)) b tb L ⟨s.ts,s.e,k⟩:=by
 obtain⟨h0,h1,off,cap,j,e,hb,hne,ht⟩:=h;refine⟨h0,h1,off,cap,j,e,?_,hne,ht.grown (grown_set _ _ _ _) (fun x hx=>by cases hx;exact hne)⟩;have:=hb.set 3 (.int .i64 k);simpa only[xM,xJ,xK]using this
theorem q_fail (w:World)(b tb:Nat)(L:List Tok)(s:Rs)(h:Rk w b tb L s)(k p:Int):
 Calls Tryz.prog 247 #[.pointer (some ⟨b,0,none⟩),.int .i64 k,.int .i64 p] w fun e w'=>e= .returned (.tuple #[])∧Rk w' b tb L (s.fail k p)∧w.grownBy w' (some b):=by
 obtain⟨off,cap,j,hlt,hne,hj,hl,h2,h3,_,d0,d1,d2,d3,c0,c1,c2⟩:=h.cells;have hbl:=h.lt;have f2:=h.frozen 2;have f3:=h.frozen 3;by_cases he:s.e=0
 ·have HR:Hid (Rk ((w.setCell ⟨b,2,none⟩ (.int .i64 k)).setCell ⟨b,3,none⟩ (.int .i64 p)) b tb L (s.fail k p)):=by
   have:=(h.set2 k).set3 p;unfold Rs.fail;rw[if_pos he];exact this
  rw[he]at d2;clear hj hl h2 h3 d0 d1 c0 c1 c2 h he;go_enter Tryz.func247,Tryz.ntmps247;go_wp2;go_end0;exact⟨rfl,HR.out,grown_trans (grown_set _ _ _ _) (grown_set _ _ _ _)⟩
 ·have HR:Hid (Rk w b tb L (s.fail k p)):=by
   unfold Rs.fail;rw[if_neg he];exact h
  have he1:(s.e==0)=false:=by simpa using he
  generalize s.e=z at*
  clear hj hl h2 h3 d0 d1 c0 c1 c2 h he;go_enter Tryz.func247,Tryz.ntmps247;go_wp2;go_end0;exact⟨rfl,HR.out,World.grownBy.refl _ _⟩
theorem q_is (w:World)(b tb:Nat)(L:List Tok)(s:Rs)(h:Rk w b tb L s)(t:List UInt8):
 Calls Tryz.prog 306 #[.pointer (some ⟨b,0,none⟩),.string (str t)] w fun e w'=>e= .returned (.bool (s.is t))∧Below w.heap.size w w':=by
 obtain⟨off,cap,j,hlt,hne,hj,hl,h2,h3,_,d0,d1,d2,d3,c0,c1,c2⟩:=h.cells;have hbl:=h.lt;have HN:=hid (fun (w1:World) (hB:Below w.heap.size w w1)=>q_now w1 b tb L s (h.below hB));have q0:=tok_kind;have q1:=tok_text;have q2:=tok_pos;clear d0 d1 d3 c0 c1 c2 h hj hl h2 h3 hne hlt;by_cases he:s.e=0
 ·rw[he]at d2
  by_cases htx:s.now.text=t
  ·have hz:=hid (show s.is t=decide (s.now.kind≠3) by unfold Rs.is Rs.more;simp[he,htx])
   have hse:((str s.now.text).toList==(str t).toList)=true:=by rw[str_eql];simpa using htx
   have HSE:=hid hse;by_cases hk:s.now.kind=3
   ·have hz2:Hid (s.is t=false):=by show _=_;rw[hz.out];simp[hk]
    rw[hk]at HN;clear hz htx hk he;go_enter Tryz.func306,Tryz.ntmps306;go_wp2_with fail;refine(HN.out w (Below.refl _ _)).mono ?_;rintro e w1 ⟨rfl,hB⟩;have HB:=hid hB;clear hB;dsimp only;go_wp2_with fail;refine(HN.out w1 HB.out).mono ?_;rintro e w2 ⟨rfl,hB2⟩;dsimp only;go_wp2_with fail;go_ret;exact⟨ret_bool hz2.out.symm,up HB.out hB2⟩
   ·have hz2:Hid (s.is t=true):=by show _=_;rw[hz.out];simp[hk]
    have hkb:(s.now.kind !=3)=true:=by simpa using hk
    generalize s.now.kind=kk at*
    clear hz htx hk he;go_enter Tryz.func306,Tryz.ntmps306;go_wp2_with fail;refine(HN.out w (Below.refl _ _)).mono ?_;rintro e w1 ⟨rfl,hB⟩;have HB:=hid hB;clear hB;dsimp only;go_wp2_with fail;refine(HN.out w1 HB.out).mono ?_;rintro e w2 ⟨rfl,hB2⟩;dsimp only;go_wp2_with fail;go_ret;exact⟨ret_bool hz2.out.symm,up HB.out hB2⟩
  ·have hz:=hid (show s.is t=false by unfold Rs.is Rs.more;simp[htx])
   have hse:((str s.now.text).toList==(str t).toList)=false:=by rw[str_eql];simpa using htx
   clear he htx;go_enter Tryz.func306,Tryz.ntmps306;go_wp2_with fail;refine(HN.out w (Below.refl _ _)).mono ?_;rintro e w1 ⟨rfl,hB⟩;dsimp only;go_wp2_with fail;go_ret;exact⟨ret_bool hz.out.symm,hB⟩
 ·have hz:=hid (show s.is t=false by unfold Rs.is Rs.more;simp[he])
  have he1:(s.e==0)=false:=by simpa using he
  generalize s.e=z at*
  clear HN he;go_enter Tryz.func306,Tryz.ntmps306;go_wp2_with fail;go_ret;exact⟨ret_bool hz.out.symm,Below.refl _ _⟩
theorem q_done (w:World)(b tb:Nat)(L:List Tok)(s:Rs)(h:Rk w b tb L s):
 Calls Tryz.prog 245 #[.pointer (some ⟨b,0,none⟩)] w fun e w'=>e= .returned (.bool (!s.more))∧Below w.heap.size w w':=by
 obtain⟨off,cap,j,hlt,hne,hj,hl,h2,h3,_,d0,d1,d2,d3,c0,c1,c2⟩:=h.cells;have hbl:=h.lt;have HN:=hid (q_now w b tb L s h);have q0:=tok_kind;have q1:=tok_text;have q2:=tok_pos;clear d0 d1 d3 c0 c1 c2 h hj hl h2 h3 hne hlt;by_cases he:s.e=0
 ·rw[he]at d2
  by_cases hk:s.now.kind=3
  ·have hz:=hid (show s.more=false by unfold Rs.more;rw[hk];simp)
   rw[hk]at HN;clear hk he;go_enter Tryz.func245,Tryz.ntmps245;go_wp2_with fail;refine HN.out.mono ?_;rintro e w1 ⟨rfl,hB⟩;dsimp only;go_wp2_with fail;go_ret;exact⟨ret_bool (by rw[hz.out];rfl),hB⟩
  ·have hz:=hid (show s.more=true by unfold Rs.more;simp[he,hk])
   have hkb:(s.now.kind==3)=false:=by simpa using hk
   generalize s.now.kind=kk at*
   clear hk he;go_enter Tryz.func245,Tryz.ntmps245;go_wp2_with fail;refine HN.out.mono ?_;rintro e w1 ⟨rfl,hB⟩;dsimp only;go_wp2_with fail;go_ret;exact⟨ret_bool (by rw[hz.out];rfl),hB⟩
 ·have hz:=hid (show s.more=false by unfold Rs.more;simp[he])
  have he1:(s.e !=0)=true:=by simpa using he
  generalize s.e=z at*
  clear HN he;go_enter Tryz.func245,Tryz.ntmps245;go_wp2_with fail;go_ret;exact⟨ret_bool (by rw[hz.out];rfl),Below.refl _ _⟩
theorem Rk.step1 {w:World}{b tb:Nat}{L:List Tok}{s:Rs}(h:Rk w b tb L s)(hk:s.now.kind≠3):∃j:Nat,j≤4097∧w.cell? ⟨b,1,none⟩=some (.int .i64 ((j:Nat):Int))∧Rk (w.setCell ⟨b,1,none⟩ (.int .i64 ((j:Int)+1))) b tb L s.skip:=by
 obtain⟨off,cap,j,hlt,hne,hj,hl,h2,h3,_,d0,d1,d2,d3,c0,c1,c2⟩:=h.cells;exact⟨j,by omega,d1,(h.adv d1 hk).1⟩
theorem q_need (w:World)(b tb:Nat)(L:List Tok)(s:Rs)(h:Rk w b tb L s)(t:List UInt8):
 Calls Tryz.prog 242 #[.pointer (some ⟨b,0,none⟩),.string (str t)] w fun e w'=>e= .returned (.tuple #[])∧Rk w' b tb L (s.need t)∧w.grownBy w' (some b):=by
 have HI:=hid (q_is w b tb L s h t);have hT:=hid h;have hbl:=h.lt;unfold Rs.need;have q0:=tok_kind;have q1:=tok_text;have q2:=tok_pos;cases hi:s.is t with
 |true=>
  have HK:=hid (Rs.is_kind hi).1
  rw[hi]at HI
  clear hi h
  rw[if_pos rfl]
  go_enter Tryz.func242,Tryz.ntmps242
  go_wp2_with fail
  refine HI.out.mono ?_
  rintro e w1 ⟨rfl,hB⟩
  have HB:=hid hB
  obtain⟨j,hj,d1,hR⟩:=(hT.out.below hB).step1 HK.out
  have HR:=hid hR
  have f1:=(hT.out.below hB).frozen 1
  have hl1:=(hT.out.below hB).lt
  have wj:IntKind.i64.wrap ((j:Int)+1)=(j:Int)+1:=IntWalk.i64_in _ (by omega)
  clear hB hR
  dsimp only
  go_wp2_with fail
  go_end0
  exact⟨rfl,HR.out,grown_trans (grown_of HB.out _) (grown_set _ _ _ _)⟩
 |false=>
  rw[hi]at HI
  clear hi h
  rw[if_neg (by decide)]
  go_enter Tryz.func242,Tryz.ntmps242
  go_wp2_with fail
  refine HI.out.mono ?_
  rintro e w1 ⟨rfl,hB⟩
  have HB:=hid hB
  clear hB
  dsimp only
  go_wp2_with fail
  refine(q_now w1 b tb L s (hT.out.below HB.out)).mono ?_
  rintro e w2 ⟨rfl,hB2⟩
  have HB2:=hid (up HB.out hB2)
  clear hB2
  dsimp only
  go_wp2_with fail
  refine(q_fail w2 b tb L s (hT.out.below HB2.out) 4 s.now.pos).mono ?_
  rintro e w3 ⟨rfl,hT3,hg⟩
  dsimp only
  go_wp2_with fail
  refine bodyPost_ret (results_none rfl _ _ _) rfl ?_
  exact⟨rfl,hT3,grown_trans (grown_of HB2.out _) hg⟩
theorem q_number (w:World)(b tb:Nat)(L:List Tok)(s:Rs)(h:Rk w b tb L s)(lo hi:Int):
 Calls Tryz.prog 243 #[.pointer (some ⟨b,0,none⟩),.int .i64 lo,.int .i64 hi] w fun e w'=>e= .returned (.int .i64 (s.num lo hi).1)∧Rk w' b tb L (s.num lo hi).2∧w.grownBy w' (some b):=by
 obtain⟨off,cap,j,hlt,hne,hj,hl,h2,h3,_,d0,d1,d2,d3,c0,c1,c2⟩:=h.cells;have hbl:=h.lt;have HN:=hid (q_now w b tb L s h);have HF:=hid (fun (w1:World) (hB:Below w.heap.size w w1) k p=>q_fail w1 b tb L s (h.below hB) k p);have HSK:=hid (fun (w1:World) (hB:Below w.heap.size w w1) h3=>(h.below hB).step1 h3);have HFZ:=hid (fun (w1:World) (hB:Below w.heap.size w w1)=>(h.below hB).frozen 1);have HNA:=hid (fun (w1:World)=>r_Natural s.now.text w1 (h.1.text 0));have HD2:Hid (∀ w1,Below w.heap.size w w1→w1.cell? ⟨b,2,none⟩=some (.int .i64 s.e)):=fun w1 hB=>(hB.cell hbl).trans d2;obtain⟨z,hz⟩:∃z,z=s.num lo hi:=⟨_,rfl⟩
 rw[← hz];have HZ:=hid hz;have q0:=tok_kind;have q1:=tok_text;have q2:=tok_pos;clear d0 d1 d2 d3 c0 c1 c2 hj hl h h2 h3 hz hne hlt;unfold Rs.num at HZ;by_cases he:s.e=0
 case neg=>
  have he1:(s.e !=0)=true:=by simpa using he
  obtain rfl:z=(0,s.fail 4 s.now.pos):=by rw[HZ.out,if_pos (.inl he)]
  clear HZ HNA HSK he;go_enter Tryz.func243,Tryz.ntmps243;go_wp2_with fail;refine HN.out.mono ?_;rintro e w1 ⟨rfl,hB1⟩;have HB1:=hid hB1;clear hB1;dsimp only;have x2:=HD2.out _ (HB1.out.alloc HB1.out.size (.cells #[.int .i64 s.now.kind,.string (str s.now.text),.int .i64 s.now.pos] 307));generalize s.e=ee at*
  go_wp2_with fail;refine(HF.out _ (HB1.out.alloc HB1.out.size _) 4 s.now.pos).mono ?_;rintro e w3 ⟨rfl,hT3,hg⟩;dsimp only;go_wp2_with fail;go_ret;exact⟨rfl,hT3,grown_trans (grown_of (HB1.out.alloc HB1.out.size _) _) hg⟩
 by_cases hk:s.now.kind=1
 case neg=>
  have hk1:(s.now.kind !=1)=true:=by simpa using hk
  obtain rfl:z=(0,s.fail 4 s.now.pos):=by rw[HZ.out,if_pos (.inr hk)]
  rw[he]at HD2;clear HZ HNA HSK he hk;go_enter Tryz.func243,Tryz.ntmps243;go_wp2_with fail;refine HN.out.mono ?_;rintro e w1 ⟨rfl,hB1⟩;have HB1:=hid hB1;clear hB1;dsimp only;have x2:=HD2.out _ (HB1.out.alloc HB1.out.size (.cells #[.int .i64 s.now.kind,.string (str s.now.text),.int .i64 s.now.pos] 307));generalize s.now.kind=kk at*
  go_wp2_with fail;refine(HF.out _ (HB1.out.alloc HB1.out.size _) 4 s.now.pos).mono ?_;rintro e w3 ⟨rfl,hT3,hg⟩;dsimp only;go_wp2_with fail;go_ret;exact⟨rfl,hT3,grown_trans (grown_of (HB1.out.alloc HB1.out.size _) _) hg⟩
 have hk3:s.now.kind≠3:=by rw[hk];decide
 have HK3:=hid hk3;rw[he]at HD2;rw[hk]at HN;clear hk3;rw[if_neg (show ¬(s.e≠0∨s.now.kind≠1) by simp[he,hk])]at HZ;by_cases hr:(natR s.now.text).2=0
 case neg=>
  have hr':((natR s.now.text).2 !=0)=true:=by simpa using hr
  obtain rfl:z=(0,s.fail 2 s.now.pos):=by rw[HZ.out,if_pos (.inl hr)]
  clear HZ HSK he hk hr HK3;go_enter Tryz.func243,Tryz.ntmps243;go_wp2_with fail;refine HN.out.mono ?_;rintro e w1 ⟨rfl,hB1⟩;have HB1:=hid hB1;clear hB1;dsimp only;have x2:=HD2.out _ (HB1.out.alloc HB1.out.size (.cells #[.int .i64 1,.string (str s.now.text),.int .i64 s.now.pos] 307));generalize (natR s.now.text).2=ee at*
  go_wp2_with fail;refine(HNA.out _).mono ?_;rintro e w2 ⟨rfl,hw2⟩;have HB2:Hid (Below w.heap.size w w2):=by rw[hw2];exact HB1.out.alloc HB1.out.size _
  have x2:w2.cell? ⟨w1.heap.size,2,none⟩=some (.int .i64 s.now.pos):=by rw[hw2];simp
  have x2l:w1.heap.size<w2.heap.size:=by rw[hw2];simp
  clear hw2;dsimp only;go_wp2_with fail;refine(HF.out _ HB2.out 2 s.now.pos).mono ?_;rintro e w3 ⟨rfl,hT3,hg⟩;dsimp only;go_wp2_with fail;go_ret;exact⟨rfl,hT3,grown_trans (grown_of HB2.out _) hg⟩
 rw[hr]at HNA;by_cases hlo:(natR s.now.text).1<lo
 case pos=>
  obtain rfl:z=(0,s.fail 2 s.now.pos):=by rw[HZ.out,if_pos (.inr (.inl hlo))]
  clear HZ HSK he hk hr HK3;generalize (natR s.now.text).1=nn at*
  go_enter Tryz.func243,Tryz.ntmps243;go_wp2_with fail;refine HN.out.mono ?_;rintro e w1 ⟨rfl,hB1⟩;have HB1:=hid hB1;clear hB1;dsimp only;have x2:=HD2.out _ (HB1.out.alloc HB1.out.size (.cells #[.int .i64 1,.string (str s.now.text),.int .i64 s.now.pos] 307));go_wp2_with fail;refine(HNA.out _).mono ?_;rintro e w2 ⟨rfl,hw2⟩;have HB2:Hid (Below w.heap.size w w2):=by rw[hw2];exact HB1.out.alloc HB1.out.size _
  have x2:w2.cell? ⟨w1.heap.size,2,none⟩=some (.int .i64 s.now.pos):=by rw[hw2];simp
  have x2l:w1.heap.size<w2.heap.size:=by rw[hw2];simp
  clear hw2;dsimp only;go_wp2_with fail;refine(HF.out _ HB2.out 2 s.now.pos).mono ?_;rintro e w3 ⟨rfl,hT3,hg⟩;dsimp only;go_wp2_with fail;go_ret;exact⟨rfl,hT3,grown_trans (grown_of HB2.out _) hg⟩
 by_cases hhi:hi<(natR s.now.text).1
 case pos=>
  obtain rfl:z=(0,s.fail 2 s.now.pos):=by rw[HZ.out,if_pos (.inr (.inr hhi))]
  clear HZ HSK he hk hr HK3;generalize (natR s.now.text).1=nn at*
  go_enter Tryz.func243,Tryz.ntmps243;go_wp2_with fail;refine HN.out.mono ?_;rintro e w1 ⟨rfl,hB1⟩;have HB1:=hid hB1;clear hB1;dsimp only;have x2:=HD2.out _ (HB1.out.alloc HB1.out.size (.cells #[.int .i64 1,.string (str s.now.text),.int .i64 s.now.pos] 307));go_wp2_with fail;refine(HNA.out _).mono ?_;rintro e w2 ⟨rfl,hw2⟩;have HB2:Hid (Below w.heap.size w w2):=by rw[hw2];exact HB1.out.alloc HB1.out.size _
  have x2:w2.cell? ⟨w1.heap.size,2,none⟩=some (.int .i64 s.now.pos):=by rw[hw2];simp
  have x2l:w1.heap.size<w2.heap.size:=by rw[hw2];simp
  clear hw2;dsimp only;go_wp2_with fail;refine(HF.out _ HB2.out 2 s.now.pos).mono ?_;rintro e w3 ⟨rfl,hT3,hg⟩;dsimp only;go_wp2_with fail;go_ret;exact⟨rfl,hT3,grown_trans (grown_of HB2.out _) hg⟩
 obtain rfl:z=((natR s.now.text).1,s.skip):=by rw[HZ.out,if_neg (show ¬((natR s.now.text).2≠0∨(natR s.now.text).1<lo∨hi<(natR s.now.text).1) by omega)]
 clear HZ HF he hk hr;generalize (natR s.now.text).1=nn at*
 go_enter Tryz.func243,Tryz.ntmps243;go_wp2_with fail;refine HN.out.mono ?_;rintro e w1 ⟨rfl,hB1⟩;have HB1:=hid hB1;clear hB1;dsimp only;have x2:=HD2.out _ (HB1.out.alloc HB1.out.size (.cells #[.int .i64 1,.string (str s.now.text),.int .i64 s.now.pos] 307));go_wp2_with fail;refine(HNA.out _).mono ?_;rintro e w2 ⟨rfl,hw2⟩;have HB2:Hid (Below w.heap.size w w2):=by rw[hw2];exact HB1.out.alloc HB1.out.size _
 have x2:w2.cell? ⟨w1.heap.size,2,none⟩=some (.int .i64 s.now.pos):=by rw[hw2];simp
 have x2l:w1.heap.size<w2.heap.size:=by rw[hw2];simp
 clear hw2;dsimp only;obtain⟨j,hj,d1,hR⟩:=HSK.out _ HB2.out HK3.out;have HR:=hid hR;have f1:=HFZ.out _ HB2.out;have hbl2:b<w2.heap.size:=Nat.lt_of_lt_of_le hbl HB2.out.size;have wj:IntKind.i64.wrap ((j:Int)+1)=(j:Int)+1:=IntWalk.i64_in _ (by omega);clear hR x2 x2l;go_wp2_with fail;go_ret;exact⟨rfl,HR.out,grown_trans (grown_of HB2.out _) (grown_set _ _ _ _)⟩
theorem q_mult (w:World)(b tb:Nat)(L:List Tok)(s:Rs)(h:Rk w b tb L s):
 Calls Tryz.prog 309 #[.pointer (some ⟨b,0,none⟩)] w fun e w'=>e= .returned (.int .i64 s.mul.1)∧Rk w' b tb L s.mul.2∧w.grownBy w' (some b):=by
 have HI:=hid (q_is w b tb L s h [42]);have hT:=hid h;have hbl:=h.lt;unfold Rs.mul;cases hi:s.is [42]with
 |false=>
  rw[hi]at HI
  rw[if_neg (by decide)]
  clear hi h
  go_enter Tryz.func309,Tryz.ntmps309
  go_wp2_with fail
  refine HI.out.mono ?_
  rintro e w1 ⟨rfl,hB⟩
  dsimp only
  go_wp2_with fail
  go_ret
  exact⟨rfl,hT.out.below hB,grown_of hB _⟩
 |true=>
  have HK:=hid (Rs.is_kind hi).1
  rw[hi]at HI
  rw[if_pos rfl]
  have hq:=hid (fun w h=>q_number w b tb L s.skip h 1 50)
  clear hi h
  generalize s.skip.num 1 50=z at*
  go_enter Tryz.func309,Tryz.ntmps309
  go_wp2_with fail
  refine HI.out.mono ?_
  rintro e w1 ⟨rfl,hB⟩
  have HB:=hid hB
  obtain⟨j,hj,d1,hR⟩:=(hT.out.below hB).step1 HK.out
  have HR:=hid hR
  have f1:=(hT.out.below hB).frozen 1
  have hl1:=(hT.out.below hB).lt
  have wj:IntKind.i64.wrap ((j:Int)+1)=(j:Int)+1:=IntWalk.i64_in _ (by omega)
  clear hB hR
  dsimp only
  go_wp2_with fail
  refine(hq.out _ HR.out).mono ?_
  rintro e w2 ⟨rfl,hR2,hg2⟩
  dsimp only
  go_wp2_with fail
  go_ret
  exact⟨rfl,hR2,grown_trans (grown_trans (grown_of HB.out _) (grown_set _ _ _ _)) hg2⟩
theorem load_reader {w:World}{b:Nat}{v0 v1 v2 v3:Value}(h:Blk w b #[v0,v1,v2,v3] 242):(loadVar 242 ⟨b,0,none⟩).run Tryz.prog w= .ok (.agg #[v0,v1,v2,v3]) w:=by
 have hlt:=h.lt;have c0:=h.cell 0;have c1:=h.cell 1;have c2:=h.cell 2;have c3:=h.cell 3;simp only[xG,xH,xI]at c0 c1 c2 c3;go_simp
def RetO (w:World)(s:Rs)(e:Ending)(w':World):Prop:=∃lv,e= .returned (.agg #[lv,.int .i64 0,.int .i64 s.e,.int .i64 s.pl])∧ToksR w' lv s.ts∧Below w.heap.size w w'
theorem q_open (s:List UInt8)(w:World):Calls Tryz.prog 179 #[.string (str s)] w (RetO w (opened (scanR s))):=by
 have hs:=hid (fun w=>r_Scan s w);have hB0:=hid (Below.alloc (Below.refl w.heap.size w) (Nat.le_refl _) (.cells #[.slice none 0 0,.int .i64 0,.int .i64 0,.int .i64 0] 242));have hb0:=hid (Blk.new w #[.slice none 0 0,.int .i64 0,.int .i64 0,.int .i64 0] 242);cases hz:scanR s with
 |inl x=>
  have h0:=scan_no hz
  rw[hz]at hs
  clear hz
  obtain⟨x1,x2⟩:=x
  have hx:(x2 !=0)=true:=by simpa using h0
  clear h0
  go_enter Tryz.func179,Tryz.ntmps179
  go_wp2_with fail
  refine(hs.out _).mono ?_
  rintro e w1 ⟨v,rfl,hown,hB⟩
  have HB:=hid (hB0.out.trans (hB.mono hB0.out.size))
  have HBL:=hid (hb0.out.below hB)
  simp only[Scn.at',Scn.no]
  clear hB hown hB0 hb0
  have hlt:=HBL.out.lt
  have f0:=HBL.out.frozen 0
  have f1:=HBL.out.frozen 1
  have f2:=HBL.out.frozen 2
  have f3:=HBL.out.frozen 3
  have c0:=HBL.out.cell 0
  have c1:=HBL.out.cell 1
  have c2:=HBL.out.cell 2
  have c3:=HBL.out.cell 3
  simp only[xG,xH,xI]at c0 c1 c2 c3
  go_wp2_with fail
  have HN:=hid (Blk.new (((((w1.setCell ⟨w.heap.size,0,none⟩ (.slice (some ⟨w1.heap.size,0,none⟩) 1 1)).setCell ⟨w.heap.size,1,none⟩ (.int .i64 0)).setCell ⟨w.heap.size,2,none⟩ (.int .i64 x2)).setCell ⟨w.heap.size,3,none⟩ (.int .i64 x1))) #[.int .i64 3,.string {data:= #[]},.int .i64 0] 307)
  have HR:=hid (((((HBL.out.set 0 (.slice (some ⟨w1.heap.size,0,none⟩) 1 1)).set 1 (.int .i64 0)).set 2 (.int .i64 x2)).set 3 (.int .i64 x1)).alloc (.cells #[.int .i64 3,.string {data:= #[]},.int .i64 0] 307))
  have HBx:=hid ((((((HB.out.setCell (p:=⟨w.heap.size,0,none⟩) (Nat.le_refl _) (.slice (some ⟨w1.heap.size,0,none⟩) 1 1)).setCell (p:=⟨w.heap.size,1,none⟩) (Nat.le_refl _) (.int .i64 0)).setCell (p:=⟨w.heap.size,2,none⟩) (Nat.le_refl _) (.int .i64 x2)).setCell (p:=⟨w.heap.size,3,none⟩) (Nat.le_refl _) (.int .i64 x1)).alloc (by have:=HB.out.size;simpa using this) (.cells #[.int .i64 3,.string {data:= #[]},.int .i64 0] 307)))
  simp only[World.size_setCell]at HN
  refine bodyPost_ret (results_cell1' rfl rfl (load_reader HR.out)) rfl ⟨_,rfl,?_,HBx.out⟩
  refine⟨_,_,rfl,Nat.le_refl _,by show(1:Nat)≤_;omega,by show(1:Nat)*32≤_;omega,.inr ⟨w1.heap.size,0,rfl,HN.out.lt,fun i hi=> ?_⟩⟩
  rw[Nat.zero_add,HN.out.cell i,List.getElem?_toArray]
  rfl
 |inr l=>
  rw[hz]at hs
  have hok:=scanR_ok hz
  clear hz
  go_enter Tryz.func179,Tryz.ntmps179
  go_wp2_with fail
  refine(hs.out _).mono ?_
  rintro e w1 ⟨v,rfl,hown,hB⟩
  have HT:=hid (owns_toks hown (by have:=hok.2.1;simp only[Scn.toks];omega))
  have HBV:=hid (fun k (hk:v.ownBlock=some k)=>(hown.lt k hk).1)
  have HB:=hid (hB0.out.trans (hB.mono hB0.out.size))
  have HBL:=hid (hb0.out.below hB)
  obtain⟨a,c,rfl,_⟩:=HT.out
  simp only[Scn.at',Scn.no]
  have hsz:(w.alloc (.cells #[.slice none 0 0,.int .i64 0,.int .i64 0,.int .i64 0] 242)).heap.size=w.heap.size+1:=by simp
  rw[hsz]at HBV
  clear hB hown hB0 hb0 hok hsz
  have hlt:=HBL.out.lt
  have f0:=HBL.out.frozen 0
  have f1:=HBL.out.frozen 1
  have f2:=HBL.out.frozen 2
  have f3:=HBL.out.frozen 3
  have c0:=HBL.out.cell 0
  have c1:=HBL.out.cell 1
  have c2:=HBL.out.cell 2
  have c3:=HBL.out.cell 3
  simp only[xG,xH,xI]at c0 c1 c2 c3
  go_wp2_with fail
  have HR:=hid ((((HBL.out.set 0 (.slice a (Scn.toks (.inr l)).length c)).set 1 (.int .i64 0)).set 2 (.int .i64 0)).set 3 (.int .i64 0))
  refine bodyPost_ret (results_cell1' rfl rfl (load_reader HR.out)) rfl ⟨_,rfl,?_,?_⟩
  ·have hne:∀x,a=some x→x.block≠w.heap.size:=fun x hx=>by
    subst hx;have:=HBV.out x.block rfl;omega
   exact(((HT.out.grown (grown_set _ _ _ _) hne).grown (grown_set _ _ _ _) hne).grown (grown_set _ _ _ _) hne).grown (grown_set _ _ _ _) hne
  ·exact(((HB.out.setCell (p:=⟨w.heap.size,0,none⟩) (Nat.le_refl _) _).setCell (p:=⟨w.heap.size,1,none⟩) (Nat.le_refl _) _).setCell (p:=⟨w.heap.size,2,none⟩) (Nat.le_refl _) _).setCell (p:=⟨w.heap.size,3,none⟩) (Nat.le_refl _) _
theorem Rk.new {w:World}{lv:Value}{s:Rs}(hs:TsOk s.ts)(ht:ToksR w lv s.ts):∃tb,lv.ownBlock=some tb∧tb<w.heap.size∧Rk (w.alloc (.cells #[lv,.int .i64 0,.int .i64 s.e,.int .i64 s.pl] 242)) w.heap.size tb s.ts s:=by
 obtain⟨tb,off,cap,rfl,hlt⟩:=ht.head hs.1;exact⟨tb,rfl,hlt,hs,hs,off,cap,0,by simp,Blk.new _ _ _,by omega,ht.below ((Below.refl _ _).alloc (Nat.le_refl _) _)⟩
theorem q_head (w:World)(b tb:Nat)(L:List Tok)(s:Rs)(h:Rk w b tb L s)(word:List UInt8):
 Calls Tryz.prog 180 #[.pointer (some ⟨b,0,none⟩),.string (str word)] w fun e w'=>e= .returned (.int .i64 (s.head word).1)∧Rk w' b tb L (s.head word).2∧w.grownBy w' (some b):=by
 have hn:=hid (q_need w b tb L s h word);unfold Rs.head;generalize s.need word=s1 at*
 have hq:=hid (fun w h=>q_number w b tb L s1 h 1 12);generalize s1.num 1 12=p at*
 obtain⟨n,s2⟩:=p;dsimp only at hq⊢;have hc:=hid (fun w h=>q_need w b tb L s2 h [58]);generalize s2.need [58]=s3 at*
 clear h;go_enter Tryz.func180,Tryz.ntmps180;go_wp2_with fail;refine hn.out.mono ?_;rintro e w1 ⟨rfl,h1,g1⟩;have H1:=hid h1;have G1:=hid g1;clear h1 g1;dsimp only;go_wp2_with fail;refine(hq.out w1 H1.out).mono ?_;rintro e w2 ⟨rfl,h2,g2⟩;have H2:=hid h2;have G2:=hid (grown_trans G1.out g2);clear h2 g2;dsimp only;go_wp2_with fail;refine(hc.out w2 H2.out).mono ?_;rintro e w3 ⟨rfl,h3,g3⟩;dsimp only;go_wp2_with fail;go_ret;exact⟨rfl,h3,grown_trans G2.out g3⟩
structure LkI (w0 w:World)(b tb X R:Nat)(L:List Tok)(s:Rs)(xc:Array Value):Prop where
 tk:Rk w b tb L s
 bx:Blk w X xc 311
 br:Blk w R #[.int .i64 0,.int .i64 0,.int .i64 0,.int .i64 0] 311
 g:w0.grownBy w (some b)
 nx:X≠b
 nr:R≠b
 ne:X≠R
 nt:tb≠X
 ntr:tb≠R
 h0:w0.heap.size≤X
 h0r:w0.heap.size≤R
section
variable {w0 w w' : World} {b tb X R : Nat} {L : List Tok} {s s' : Rs} {xc : Array Value}
theorem LkI.step (h:LkI w0 w b tb X R L s xc)(ht:Rk w' b tb L s')(hg:w.grownBy w' (some b)):LkI w0 w' b tb X R L s' xc:=
 ⟨ht,h.bx.grown hg (fun e=>h.nx (Option.some.inj e).symm),h.br.grown hg (fun e=>h.nr (Option.some.inj e).symm),grown_trans h.g hg,h.nx,h.nr,h.ne,h.nt,h.ntr,h.h0,h.h0r⟩
theorem LkI.below (h:LkI w0 w b tb X R L s xc)(hB:Below w.heap.size w w'):LkI w0 w' b tb X R L s xc:=h.step (h.tk.below hB) (grown_of hB _)
theorem Rk.setO (h:Rk w b tb L s){g:Nat}(h1:b≠g)(h2:tb≠g)(k:Nat)(v:Value):Rk (w.setCell ⟨g,k,none⟩ v) b tb L s:=
 h.grownR (grown_set _ _ _ _) (fun e=>h1 (Option.some.inj e).symm) (fun e=>h2 (Option.some.inj e).symm)
theorem LkI.setX (h:LkI w0 w b tb X R L s xc)(k:Nat)(v:Value):LkI w0 (w.setCell ⟨X,k,none⟩ v) b tb X R L s (xc.setIfInBounds k v):=
 ⟨h.tk.setO (Ne.symm h.nx) h.nt k v,h.bx.set k v,h.br.other (Ne.symm h.ne) k v,grown_setN _ _ _ _ h.h0 _ h.g,h.nx,h.nr,h.ne,h.nt,h.ntr,h.h0,h.h0r⟩
end
theorem load_Line {w:World}{b:Nat}{v0 v1 v2 v3:Value}(h:Blk w b #[v0,v1,v2,v3] 311):(loadVar 311 ⟨b,0,none⟩).run Tryz.prog w= .ok (.agg #[v0,v1,v2,v3]) w:=by
 have hlt:=h.lt;have c0:=h.cell 0;have c1:=h.cell 1;have c2:=h.cell 2;have c3:=h.cell 3;simp only[xG,xH,xI]at c0 c1 c2 c3;go_simp
def LnV (x:Ln):Value:= .agg #[.int .i64 x.a,.int .i64 x.b,.int .i64 x.m,.int .i64 x.pl]
theorem q_line (w:World)(b tb:Nat)(L:List Tok)(s:Rs)(h:Rk w b tb L s)(n:Int)(sign:UInt8)(hn: -1000≤n∧n≤1000):
 Calls Tryz.prog 246 #[.pointer (some ⟨b,0,none⟩),.int .i64 n,.string (str [sign])] w fun e w'=>e= .returned (LnV (s.line sign n).1)∧Rk w' b tb L (s.line sign n).2∧w.grownBy w' (some b):=by
 obtain⟨z,hz⟩:∃z,z=s.line sign n:=⟨_,rfl⟩;rw[← hz];unfold Rs.line at hz;have HZ:=hid hz;clear hz;have HR:=hid (Blk.new w #[.int .i64 0,.int .i64 0,.int .i64 0,.int .i64 0] 311);have hB0:=(Below.refl w.heap.size w).alloc (Nat.le_refl _) (.cells #[.int .i64 0,.int .i64 0,.int .i64 0,.int .i64 0] 311);have HT:=hid (h.below hB0);have HB0:=hid hB0;have hbl:=hid h.lt;have htl:Hid (tb<w.heap.size):=by obtain⟨_,_,_,h1,_⟩:=h.cells;exact h1
 have wn:IntKind.i64.wrap (n-1)=n-1:=IntWalk.i64_in _ (by omega);have q2:=tok_pos;clear h hB0;go_enter Tryz.func246,Tryz.ntmps246;go_upto_region 1 with fail;generalize w.alloc (.cells #[.int .i64 0,.int .i64 0,.int .i64 0,.int .i64 0] 311)=W0 at*
 go_wp2_with fail;refine(q_now W0 b tb L s HT.out).mono ?_;rintro e w1 ⟨rfl,hB1⟩;have HI0:Hid (LkI w (w1.alloc (.cells #[.int .i64 0,.int .i64 0,.int .i64 0,.int .i64 s.now.pos] 311)) b tb w1.heap.size w.heap.size L s #[.int .i64 0,.int .i64 0,.int .i64 0,.int .i64 s.now.pos]):=by
  have hB2:=up hB1 ((Below.refl w1.heap.size w1).alloc (Nat.le_refl _) (.cells #[.int .i64 0,.int .i64 0,.int .i64 0,.int .i64 s.now.pos] 311));have hs1:=hB1.size;have hs2:=HR.out.lt;have a1:=hbl.out;have a2:=htl.out;exact⟨HT.out.below hB2,Blk.new _ _ _,HR.out.below hB2,grown_trans (grown_of HB0.out _) (grown_of hB2 _),by omega,by omega,by omega,by omega,by omega,by omega,Nat.le_refl _⟩
 clear hB1 HT HB0 HR;dsimp only;go_upto_region 2 with fail;generalize w1.alloc (.cells #[.int .i64 0,.int .i64 0,.int .i64 0,.int .i64 s.now.pos] 311)=W1 at*
 generalize w1.heap.size=X at*
 go_wp2_with fail;refine(q_number W1 b tb L s HI0.out.tk 0 (n-1)).mono ?_;rintro e w2 ⟨rfl,h2,g2⟩;have HI1:=hid (HI0.out.step h2 g2);clear h2 g2 HI0;generalize s.num 0 (n-1)=p1 at*
 obtain⟨y1,s1⟩:=p1;have HI1:Hid (LkI w w2 b tb X w.heap.size L s1 #[.int .i64 0,.int .i64 0,.int .i64 0,.int .i64 s.now.pos]):=HI1;have x0:=HI1.out.bx.cell 0;simp only[xG,xH,xI]at x0;have f0:=HI1.out.bx.frozen 0;have xl:=HI1.out.bx.lt;dsimp only;go_wp2_with fail;have HI2:=hid (HI1.out.setX 0 (.int .i64 y1));generalize w2.setCell ⟨X,0,none⟩ (.int .i64 y1)=W2 at*
 clear x0 f0 xl HI1;refine(q_need W2 b tb L s1 HI2.out.tk [sign]).mono ?_;rintro e w3 ⟨rfl,h3,g3⟩;have HI3:=hid (HI2.out.step h3 g3);clear h3 g3 HI2;have HZ:Hid (z=(⟨y1,((s1.need [sign]).num 0 (n-1)).1,((s1.need [sign]).num 0 (n-1)).2.mul.1,s.now.pos⟩,((s1.need [sign]).num 0 (n-1)).2.mul.2)):=HZ;generalize s1.need [sign]=s2 at*
 dsimp only;go_wp2_with fail;refine(q_number w3 b tb L s2 HI3.out.tk 0 (n-1)).mono ?_;rintro e w4 ⟨rfl,h4,g4⟩;have HI4:=hid (HI3.out.step h4 g4);clear h4 g4 HI3;generalize s2.num 0 (n-1)=p2 at*
 obtain⟨y2,s3⟩:=p2;have HI4:Hid (LkI w w4 b tb X w.heap.size L s3 #[.int .i64 y1,.int .i64 0,.int .i64 0,.int .i64 s.now.pos]):=HI4;have x1:=HI4.out.bx.cell 1;simp only[xG,xH,xI]at x1;have f1:=HI4.out.bx.frozen 1;have xl:=HI4.out.bx.lt;dsimp only;go_wp2_with fail;have HI5:=hid (HI4.out.setX 1 (.int .i64 y2));generalize w4.setCell ⟨X,1,none⟩ (.int .i64 y2)=W4 at*
 clear x1 f1 xl HI4;refine(q_mult W4 b tb L s3 HI5.out.tk).mono ?_;rintro e w5 ⟨rfl,h5,g5⟩;have HI6:=hid (HI5.out.step h5 g5);clear h5 g5 HI5;have HZ:Hid (z=(⟨y1,y2,s3.mul.1,s.now.pos⟩,s3.mul.2)):=HZ;generalize s3.mul=p3 at*
 obtain⟨y3,s4⟩:=p3;have HI6:Hid (LkI w w5 b tb X w.heap.size L s4 #[.int .i64 y1,.int .i64 y2,.int .i64 0,.int .i64 s.now.pos]):=HI6;have x2:=HI6.out.bx.cell 2;simp only[xG,xH,xI]at x2;have f2:=HI6.out.bx.frozen 2;have xl:=HI6.out.bx.lt;dsimp only;go_upto_region 6 with fail;have HI7:=hid (HI6.out.setX 2 (.int .i64 y3));generalize w5.setCell ⟨X,2,none⟩ (.int .i64 y3)=W5 at*
 clear x2 f2 xl HI6;have HI7:Hid (LkI w W5 b tb X w.heap.size L s4 #[.int .i64 y1,.int .i64 y2,.int .i64 y3,.int .i64 s.now.pos]):=HI7;have x0:=HI7.out.bx.cell 0;have x1:=HI7.out.bx.cell 1;have x2:=HI7.out.bx.cell 2;have x3:=HI7.out.bx.cell 3;have r0:=HI7.out.br.cell 0;have r1:=HI7.out.br.cell 1;have r2:=HI7.out.br.cell 2;have r3:=HI7.out.br.cell 3;simp only[xG,xH,xI]at x0 x1 x2 x3 r0 r1 r2 r3;have xl:=HI7.out.bx.lt;have rl:=HI7.out.br.lt;have f0:=HI7.out.br.frozen 0;have f1:=HI7.out.br.frozen 1;have f2:=HI7.out.br.frozen 2;have f3:=HI7.out.br.frozen 3;go_wp2_with fail;have hbr:=((((HI7.out.br.set 0 (.int .i64 y1)).set 1 (.int .i64 y2)).set 2 (.int .i64 y3)).set 3 (.int .i64 s.now.pos))
 refine bodyPost_ret (results_cell1' rfl rfl (load_Line hbr)) rfl ?_;rw[HZ.out];have hn1:=Ne.symm HI7.out.nr;have hn2:=HI7.out.ntr;exact⟨rfl,(((HI7.out.tk.setO hn1 hn2 0 _).setO hn1 hn2 1 _).setO hn1 hn2 2 _).setO hn1 hn2 3 _,grown_setN _ _ _ _ (Nat.le_refl _) _ (grown_setN _ _ _ _ (Nat.le_refl _) _ (grown_setN _ _ _ _ (Nat.le_refl _) _ (grown_setN _ _ _ _ (Nat.le_refl _) _ HI7.out.g)))⟩
theorem Rk.value {w:World}{b tb:Nat}{L:List Tok}{s:Rs}(h:Rk w b tb L s):∃V,(loadVar 242 ⟨b,0,none⟩).run Tryz.prog w= .ok V w∧(∃ v0 v1 v2 v3,V= .agg #[v0,v1,v2,v3]∧w.cell? ⟨b,0,none⟩=some v0∧w.cell? ⟨b,1,none⟩=some v1∧w.cell? ⟨b,2,none⟩=some v2∧w.cell? ⟨b,3,none⟩=some v3∧
 ∀w',Below w.heap.size w w'→Rk (w'.alloc (.cells #[v0,v1,v2,v3] 242)) w'.heap.size tb L s):=by
 have h':=h;obtain⟨h0,h1,off,cap,j,e,hb,hne,ht⟩:=h;have d0:=hb.cell 0;have d1:=hb.cell 1;have d2:=hb.cell 2;have d3:=hb.cell 3;simp only[xG,xH,xI]at d0 d1 d2 d3;obtain⟨_,_,_,htl,_⟩:=h'.cells;refine⟨_,load_reader hb,_,_,_,_,rfl,d0,d1,d2,d3,fun w' hB=>⟨h0,h1,off,cap,j,e,Blk.new _ _ _,by have:=hB.size;omega,(ht.below hB).below ((Below.refl _ _).alloc (Nat.le_refl _) _)⟩⟩
structure RjI (w0 w:World)(b tb:Nat)(L:List Tok)(pl:Int)(v:Value)(out:List Int)(ts:List Tok):Prop where
 own:w.ownsRow w0.heap.size 3 1 v out.length (out.map (Value.int .i64))
 tk:Rk w b tb L ⟨ts,0,pl⟩
 g:w0.grownBy w (some b)
 hb:b<w0.heap.size
 htb:tb<w0.heap.size
section
variable {w0 w w' : World} {b tb : Nat} {L : List Tok} {pl : Int} {v v' : Value} {out out' : List Int} {ts ts' : List Tok}
theorem RjI.step (h:RjI w0 w b tb L pl v out ts)(ht:Rk w' b tb L ⟨ts',0,pl⟩)(hg:w.grownBy w' (some b)):RjI w0 w' b tb L pl v out ts':=
 ⟨kept_row h.own hg (hnk' h.own h.hb),ht,grown_trans h.g hg,h.hb,h.htb⟩
where hnk' {w : World} {base b : Nat} {e : TypeId} {size : Nat} {v : Value} {n : Nat} {xs : List Value} (h : w.ownsRow base e size v n xs) (hb : b < base) : ∀ k, v.ownBlock = some k → some b ≠ some k := hnk b h hb
theorem RjI.below (h:RjI w0 w b tb L pl v out ts)(hB:Below w.heap.size w w'):RjI w0 w' b tb L pl v out ts:=h.step (h.tk.below hB) (grown_of hB _)
theorem RjI.row (h:RjI w0 w b tb L pl v out ts)(ho:w'.ownsRow w0.heap.size 3 1 v' out'.length (out'.map (Value.int .i64)))(hg:w.grownBy w' v.ownBlock):RjI w0 w' b tb L pl v' out' ts:=by
 have hb:∀k,v.ownBlock=some k→w0.heap.size≤k:=fun k hk=>(h.own.lt k hk).1;have h1:=h.hb;have h2:=h.htb;exact⟨ho,h.tk.grownR hg (fun e=>by have:=hb _ e;omega) (fun e=>by have:=hb _ e;omega),kept_g h.g hg hb,h1,h2⟩
end
end Go.Proofs.YtclgllmipcbagaaGreatDoor
