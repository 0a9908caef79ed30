/-
  Parts of the proof: XN11 XN12 XN15
-/
import Derived.Test.YtclgllmipcbagaaGreatDoorBk10
namespace Go.Proofs.YtclgllmipcbagaaGreatDoor
set_option linter.unusedVariables false
set_option linter.unusedSimpArgs false
set_option maxRecDepth 100000
set_option maxHeartbeats 16000000
open Go.RowKit
theorem ToksR.grownR {w w':World}{a:Option Addr}{n cap:Nat}{r:Option Nat}{l:List Tok}(h:ToksR w (.slice a n cap) l)(hg:w.grownBy w' r)(hne:∀x,a=some x→some x.block≠r):ToksR w' (.slice a n cap) l:=by
 obtain⟨a',cap',e,h2,h3,h4,h5⟩:=h;injection e with e1 e2 e3
 subst e1 e2 e3;refine⟨a,_,rfl,h2,h3,h4,?_⟩;rcases h5 with h5|⟨tb,off,rfl,hl,hc⟩
 ·exact .inl h5
 ·refine .inr ⟨tb,off,rfl,Nat.lt_of_lt_of_le hl hg.size,fun i hi=> ?_⟩
  rw[World.cell?_of_block (hg.block tb hl (hne _ rfl))];exact hc i hi
theorem Tk.grownR {w w':World}{rb tb:Nat}{T:TypeId}{rest:List Value}{s:Rs}{r:Option Nat}(h:Tk w rb tb T rest s)(hg:w.grownBy w' r)(h1:r≠some rb)(h2:r≠some tb):Tk w' rb tb T rest s:=by
 obtain⟨a0,off,cap,hb,hne,ht⟩:=h;exact⟨a0,off,cap,hb.grown hg h1,hne,ht.grownR hg (fun x hx=>by cases hx;exact Ne.symm h2)⟩
structure TbI (w0 w:World)(rb tb:Nat)(T:TypeId)(rest:List Value)(v:Value)(es:List E)(s:Rs):Prop where
 own:w.ownsRow w0.heap.size 293 4 v es.length (linesC es)
 tk:Tk w rb tb T rest s
 g:w0.grownBy w (some rb)
 env:EnvB w rb
 env0:Env w0
 hrb:rb<w0.heap.size
 htb:tb<w0.heap.size
section
variable {w0 w w' : World} {rb tb : Nat} {T : TypeId} {rest : List Value} {v v' : Value} {es es' : List E} {s s' : Rs}
theorem TbI.step (h:TbI w0 w rb tb T rest v es s)(ht:Tk w' rb tb T rest s')(hg:w.grownBy w' (some rb)):TbI w0 w' rb tb T rest v es s':=
 ⟨h.own.kept hg (by
   cases hv:v.ownBlock with
   |none=>exact .inl rfl
   |some k=>exact .inr (by have:=(h.own.lt k hv).1;have:=h.hrb;simp;omega)),ht,grown_trans h.g hg,h.env.grown hg,h.env0,h.hrb,h.htb⟩
theorem TbI.below (h:TbI w0 w rb tb T rest v es s)(hB:Below w.heap.size w w'):TbI w0 w' rb tb T rest v es s:=h.step (h.tk.below hB) (grown_of hB _)
theorem TbI.row (h:TbI w0 w rb tb T rest v es s)(ho:w'.ownsRow w0.heap.size 293 4 v' es'.length (linesC es'))(hg:w.grownBy w' v.ownBlock):TbI w0 w' rb tb T rest v' es' s:=by
 have hb:∀k,v.ownBlock=some k→w0.heap.size≤k:=fun k hk=>(h.own.lt k hk).1;have hrb:=h.hrb;have htb:=h.htb;have he:=h.env0.lt;refine⟨ho,h.tk.grownR hg (fun e=>by have:=hb _ e;omega) (fun e=>by have:=hb _ e;omega),⟨h.g.os▸hg.os,h.g.tape▸hg.tape,h.g.output▸hg.output,Nat.le_trans h.g.size hg.size,fun k hk hne=> ?_⟩,?_,h.env0,hrb,htb⟩
 ·rw[hg.block k (Nat.lt_of_lt_of_le hk h.g.size) (fun e=>by have:=hb _ e.symm;omega)]
  exact h.g.block k hk hne
 ·refine⟨?_,h.env.2⟩
  cases hv:v.ownBlock with
  |none=>
   rw[hv]at hg
   exact h.env.1.below ⟨hg.os,hg.tape,hg.output,hg.size,fun k hk=>hg.block k hk (by simp)⟩
  |some k=>
   rw[hv]at hg
   have:=hb k hv
   exact h.env.1.grown hg (fun _ _=>by omega) (fun g' hg'=>by rw[pow_g]at hg';have:=Option.some.inj hg';omega)
end
theorem cell_set_self {w:World}{a:Addr}{v:Value}(h:w.cell? a=some v)(u:Value):(w.setCell a u).cell? a=some u:=World.cell?_setCell_same' w a u (by rw[h];rfl)
def RetTab (w:World)(rb tb:Nat)(T:TypeId)(rest:List Value)(z:List E×Rs)(e:Ending)(w':World):Prop:=
 ∃v,e= .returned v∧w'.ownsRow w.heap.size 293 4 v z.1.length (linesC z.1)∧Tk w' rb tb T rest z.2∧w.grownBy w' (some rb)
theorem n_table (either:Bool)(sign:UInt8)(word:List UInt8)(f:Nat)(hf:EndsF f either)(hfn:∀args w,(callFunc f args).run Tryz.prog w= .ok (.enter f args) w)(n:Int)(hn1:1≤n)(hn2:n≤12)(s:Rs)(rb tb:Nat)(w:World)(hE:EnvB w rb)(hT:Tk w rb tb 238 (rdRest word sign f n) s):
 Calls Tryz.prog 175 #[.pointer (some ⟨rb,0,none⟩)] w (RetTab w rb tb 238 (rdRest word sign f n) (tabL sign either n s.ts.length [] s)):=by
 have hln:=hid (fun (s':Rs) (w':World) (hE':EnvB w' rb) (hT':Tk w' rb tb 238 (rdRest word sign f n) s')=>n_line either sign word f hf hfn n hn1 hn2 s' rb tb w' hE' hT');obtain⟨Z,hZ⟩:∃Z,Z=tabL sign either n s.ts.length [] s:=⟨_,rfl⟩;rw[← hZ];have HZ:=hid hZ.symm;have h0:Hid (TbI w w rb tb 238 (rdRest word sign f n) (.slice none 0 0) [] s):=by
  obtain⟨_,_,htb,_⟩:=hT.cells;exact⟨⟨rfl,.inl ⟨rfl,rfl⟩⟩,hT,World.grownBy.refl _ _,hE,hE.1,hT.lt,htb⟩
 have hok:=hid hT.1;clear hf hfn hE hT hZ;go_enter Tryz.func175,Tryz.ntmps175;go_wp2_with fail;go_loopg [3] (s.ts.length+1) (fun k v wr=>∃es s',Hid (TbI w wr rb tb 238 (rdRest word sign f n) v es s')∧Hid (SortedE es)∧es.length+s'.ts.length≤5000∧Hid (TsOk s'.ts)∧(s'.e=0→s'.ts.length<k∧AllE (fun x=>0≤x.m∧x.m≤50) es)∧Hid (tabL sign either n s'.ts.length es s'=Z));case atStart=>exact⟨[],s,h0,fun j k hjk hk=>absurd hk (by simp),by have:=hok.out.2.1;simp;omega,hok,fun _=>⟨by omega,fun x hx=>by cases hx⟩,HZ⟩
 case round=>
  clear h0 hok HZ;obtain⟨es,s',HI,HS,hsz,HOK,hm,HZ⟩:=hrel;obtain⟨W1,rfl⟩:∃W:World,W=wr:=⟨_,rfl⟩;have HM:=hid hm;clear hm;go_wp2_with fail;refine(t_more W1 rb tb _ _ s' HI.out.tk).mono ?_;rintro e w1 ⟨rfl,hB1⟩;have HI1:=hid (HI.out.below hB1);clear hB1 HI;cases hmr:s'.more with
  |false=>
   have HZ2:Hid ((es,s')=Z):=by
    have h:=HZ.out;cases hl:s'.ts.length with
    |zero=>have:=HOK.out.1;omega
    |succ q=>rw[hl]at h;unfold tabL at h;rw[if_pos hmr]at h;exact h
   clear hmr HZ
   dsimp only
   go_wp2_with fail
   go_ret
   refine⟨_,rfl,?_,?_,HI1.out.g⟩
   ·rw[← HZ2.out];exact HI1.out.own
   ·rw[← HZ2.out];exact HI1.out.tk
  |true=>
   have he0:s'.e=0:=by unfold Rs.more at hmr;simp at hmr;exact hmr.1
   obtain⟨hgk,hall⟩:=HM.out he0
   have HGK:=hid hgk
   have HALL:=hid hall
   have HLT:=hid (line_ts HOK.out sign n)
   have hlz:s'.ts.length=(s'.ts.length-1)+1:=by have:=HOK.out.1;omega
   have hz:=HZ.out
   rw[hlz]at hz
   unfold tabL at hz
   rw[if_neg (by rw[hmr];decide)]at hz
   have HZ:=hid hz
   clear hmr hz hlz hgk hall he0 HM
   dsimp only
   go_wp2_with fail
   refine(hln.out s' w1 HI1.out.env HI1.out.tk).mono ?_
   rintro e w2 ⟨rfl,ht2,hg2⟩
   have HI2:=hid (HI1.out.step ht2 hg2)
   clear ht2 hg2 HI1
   (try dsimp only at HZ)
   generalize hp:s'.line sign n=p at*
   obtain⟨x,s2⟩:=p
   have HP:=hid hp
   clear hp
   (try dsimp only at HI2)
   (try dsimp only at HZ)
   (try dsimp only at HLT)
   unfold lnV
   (try dsimp only)
   have c1:=HI2.out.tk.rest.1
   have hlr:=HI2.out.tk.lt
   by_cases he:s2.e=0
   case neg=>
    have he1:(s2.e !=0)=true:=by simpa using he
    have HZ2:Hid ((es,s2)=Z):=by have h:=HZ.out;rw[if_pos he]at h;exact h
    generalize hge:s2.e=ee at*
    have HGE:=hid hge;clear he hge HZ;go_wp2_with fail;have HI3:=hid (HI2.out.below ((Below.refl _ _).alloc (Nat.le_refl _) (.cells #[.int .i64 (lo either x),.int .i64 (hi either x),.int .i64 x.m,.int .i64 x.pl] 293)));go_ret;refine⟨_,rfl,?_,?_,HI3.out.g⟩
    ·rw[← HZ2.out];exact HI3.out.own
    ·rw[← HZ2.out];exact HI3.out.tk
   have hlx:=HLT.out.2.2 he
   have HLX:=hid hlx
   rw[he]at c1
   have hz:=HZ.out
   rw[if_neg (by omega)]at hz
   have HZ:=hid hz
   clear hz hlx
   generalize hA:lo either x=A at*
   generalize hB:hi either x=B at*
   have HI3:=hid (HI2.out.below ((Below.refl _ _).alloc (Nat.le_refl _) (.cells #[.int .i64 A,.int .i64 B,.int .i64 x.m,.int .i64 x.pl] 293)))
   have HXB:=hid (Blk.new w2 #[.int .i64 A,.int .i64 B,.int .i64 x.m,.int .i64 x.pl] 293)
   have HE2:=hid he
   clear hA hB he
   go_upto_region 5 with fail
   generalize hX:w2.heap.size=X at*
   generalize w2.alloc (.cells #[.int .i64 A,.int .i64 B,.int .i64 x.m,.int .i64 x.pl] 293)=W3 at*
   have hXl:=HXB.out.lt
   have HXW:Hid (w.heap.size≤X):=by show _≤_;rw[← hX];exact HI2.out.g.size
   have x0:=HXB.out.cell 0
   have x1:=HXB.out.cell 1
   have x2:=HXB.out.cell 2
   have x3:=HXB.out.cell 3
   simp only[xG,xH,xI]at x0 x1 x2 x3
   have HUX:Hid (∀ k,u3.ownBlock=some k→k<X):=fun k hk=>by rw[← hX];exact(HI2.out.own.lt k hk).2
   clear hX HI2 hlr c1
   go_wp2_with fail
   refine(c_Bsf W3 w.heap.size u3 es A B x.m x.pl HI3.out.own HS.out (by omega)).mono ?_
   rintro e w4 ⟨rfl,hB4⟩
   have HI4:=hid (HI3.out.below hB4)
   have HX4:=hid (HXB.out.below hB4)
   have hXl:=HX4.out.lt
   have x0:=HX4.out.cell 0
   have x1:=HX4.out.cell 1
   have x2:=HX4.out.cell 2
   have x3:=HX4.out.cell 3
   simp only[xG,xH,xI]at x0 x1 x2 x3
   clear hB4 HI3 HXB
   cases hfd:foundE es A B with
   |false=>
    dsimp only
    go_wp2_with fail
    have hnb:=Blk.new w4 #[.int .i64 A,.int .i64 B,.int .i64 0,.int .i64 0] 293
    have HI4b:=hid (HI4.out.below ((Below.refl _ _).alloc (Nat.le_refl _) (.cells #[.int .i64 A,.int .i64 B,.int .i64 0,.int .i64 0] 293)))
    have HX4b:=hid (HX4.out.alloc (.cells #[.int .i64 A,.int .i64 B,.int .i64 0,.int .i64 0] 293))
    have hne:u3.ownBlock≠some w4.heap.size:=fun e=>by have:=(HI4.out.own.lt _ e).2;omega
    refine(c_Insert _ w.heap.size u3 es.length (posE es A B) (linesC es) _ _ _ _ w4.heap.size HI4b.out.own (posE_le es A B) (by omega) hnb (by intro u hu;simp at hu;rcases hu with rfl|rfl|rfl|rfl<;>rfl) (lines_one es) hne HI4b.out.g.size).mono ?_
    rintro e w5 ⟨v5,rfl,ho5,hg5⟩
    have HI5:Hid (TbI w w5 rb tb 238 (rdRest word sign f n) v5 (insE es A B) s2):=by
     refine TbI.row HI4b.out ?_ hg5;rw[insE_len_new hfd,insE_lines hfd];exact ho5
    have HX5:=hid (HX4b.out.grown hg5 (fun e=>by have:=HUX.out _ e;omega))
    clear ho5 hg5 hnb HI4 HI4b HX4 HX4b hne x0 x1 x2 x3 hXl
    dsimp only
    go_upto_region 8 with fail
    have hat:=insE_at es A B
    obtain⟨g,cap,ev,hbg,hgl,hnc,hcm,hfz,hcs⟩:=owns_lines HI5.out.own (by omega)
    have hown5:=HI5.out.own
    rw[ev]at hown5
    obtain⟨_,_,y2,_⟩:=hcs (posE es A B) hat.1
    have hgX:g≠X:=fun e=>by
     rw[e,HX5.out.cell,insE_new_m hfd]at y2;by_cases hp:posE es A B=0
     ·rw[hp]at y2
      have h2:x.m=0:=by simpa using y2
      have:=HLX.out.2.2.2.2.2;omega
     ·rw[Array.getElem?_eq_none (by simp;omega)]at y2
      cases y2
    subst ev
    have HF5:=hid (fun (W':World) (hB:Below w5.heap.size w5 W')=>(show W'.frozen? ⟨g,posE es A B*4+2,none⟩=false by rw[hB.frozen hgl];exact hfz _))
    have HY:=hid (fun (W':World) (hB:Below w5.heap.size w5 W')=>(hB.cell hgl).trans y2)
    have hm50:=insE_m HALL.out A B
    have HIA:=hid (insE_all (p:=fun x=>0≤x.m∧x.m≤50) HALL.out A B ⟨by show(0:Int)≤0;decide,by show(0:Int)≤50;decide⟩)
    have HLEN:=hid (insE_len es A B)
    have hpl:=hat.1
    have HALN:=hid (addE_lines es A B x.m)
    have HADL:=hid (addE_len es A B x.m)
    have HADA:=hid (fun h=>addE_all (p:=fun x=>0≤x.m∧x.m≤50) A B x.m HIA.out h)
    have HOW:=hid hown5
    have hgsz:=hgl
    generalize hm0:((insE es A B)[posE es A B]?.getD default).m=m0 at*
    generalize hps:posE es A B=ps at*
    generalize hln5:(insE es A B).length=ln at*
    have hpI:(ps:Int)<(ln:Int):=by omega
    have hp0:(0:Int)≤(ps:Int):=by omega
    have hxm:=HLX.out.2.2.2.2.2
    have wm:IntKind.i64.wrap (m0+x.m)=m0+x.m:=IntWalk.i64_in _ (by omega)
    have wX:=HX5.out.lt
    have HSZ:=hid hsz
    clear hat hfz hcs y2 hown5 hm0 hps hln5 hnc hcm hbg
    let S:World→Prop:=fun W'=>W'.cell? ⟨g,ps*4+2,none⟩=some (.int .i64 m0)∧W'.cell? ⟨X,2,none⟩=some (.int .i64 x.m)
    (refine wp_region_text 10 [0,1,2,3,4,5,6,7,8,9] S (by kernel_rfl) (by kernel_rfl) (by intro _ _ d _ _ h;cases d<;>exact h) ?hS ?_;rotate_left;simp only[xA,xB,xC,xD,xE,xF])
    case hS=>exact⟨HY.out _ (Below.drew (Below.refl _ _)),((HX5.out.below (Below.drew (Below.refl _ _))).cell 2).trans rfl⟩
    (repeat ((refine' wpSeq_take rfl _ (by rfl) ?_ ?_;rotate_left;focus(intro w' hS;(try dsimp only at hS);obtain⟨s1,s2⟩:=hS;go_simp;(first|done|with_reducible rfl));(try go_frame));(try go_frame)))
    refine wpSeq_nil ?_
    clear S
    have f1:=HF5.out _ (Below.drew (Below.refl _ _))
    have y1:=HY.out _ (Below.drew (Below.refl _ _))
    have gl1:g<w5.drew.heap.size:=hgl
    go_upto_region 9 with fail
    have HO6:Hid (((w5.setCell ⟨g,ps*4+2,none⟩ (.int .i64 (m0+x.m))).drew).ownsRow w.heap.size 293 4 (.slice (some ⟨g,0,none⟩) ln cap) (addE es A B x.m).length (linesC (addE es A B x.m))):=by
     show World.ownsRow _ _ _ _ _ _ _;rw[HADL.out,HALN.out];exact(HOW.out.drew.stored (ps*4+2) (.int .i64 (m0+x.m))).1
    have HI6:Hid (TbI w ((w5.setCell ⟨g,ps*4+2,none⟩ (.int .i64 (m0+x.m))).drew) rb tb 238 (rdRest word sign f n) (.slice (some ⟨g,0,none⟩) ln cap) (addE es A B x.m) s2):=
     TbI.row (HI5.out.below (Below.drew (Below.refl _ _))) HO6.out (grown_set _ _ _ _)
    have HX6:Hid (Blk ((w5.setCell ⟨g,ps*4+2,none⟩ (.int .i64 (m0+x.m))).drew) X #[.int .i64 A,.int .i64 B,.int .i64 x.m,.int .i64 x.pl] 293):=(HX5.out.below (Below.drew (Below.refl _ _))).other (Ne.symm hgX) (ps*4+2) (.int .i64 (m0+x.m))
    have y3:((w5.setCell ⟨g,ps*4+2,none⟩ (.int .i64 (m0+x.m))).drew).cell? ⟨g,ps*4+2,none⟩=some (.int .i64 (m0+x.m)):=cell_set_self y1 _
    clear HO6 HOW f1 y1 gl1 HF5 HY HX5 HI5
    generalize (w5.setCell ⟨g,ps*4+2,none⟩ (.int .i64 (m0+x.m))).drew=W6 at*
    have HSRT:=hid (addE_sorted HS.out A B x.m)
    by_cases h50:50<m0+x.m
    ·have HZ2:Hid ((addE es A B x.m,s2.fail 5 x.pl)=Z):=by have h:=HZ.out;rw[if_pos h50]at h;exact h
     have H50:=hid h50;go_upto_region 10 with fail;let S:World→Prop:=fun W'=>W'.cell? ⟨X,3,none⟩=some (.int .i64 x.pl)
     (refine wp_region_text 5 [0,1,2,3,4] S (by kernel_rfl) (by kernel_rfl) (by intro _ _ d _ _ h;cases d<;>exact h) ?hS ?_;rotate_left;simp only[xA,xB,xC,xD,xE,xF]);case hS=>exact((HX6.out.below (Below.drew (Below.refl _ _))).cell 3).trans rfl
     (repeat ((refine' wpSeq_take rfl _ (by rfl) ?_ ?_;rotate_left;focus(intro w' hS;(try dsimp only at hS);have s1:w'.cell? ⟨X,3,none⟩=some (.int .i64 x.pl):=hS;go_simp;(first|done|with_reducible rfl));(try go_frame));(try go_frame)));refine wpSeq_nil ?_;clear S;have HI7:=hid (HI6.out.below (Below.drew (Below.refl _ _)));clear HI6 y3 HX6 h50 HZ;go_wp2_with fail;refine(t_fail _ rb tb _ _ s2 HI7.out.tk 5 x.pl).mono ?_;rintro e w8 ⟨rfl,ht8,hg8⟩;have HI8:=hid (HI7.out.step ht8 hg8);clear ht8 hg8 HI7;dsimp only;go_wp2_with fail;go_roundg (gk-1);case measure=>have:=HGK.out;omega
     case rel=>exact⟨_,_,HI8,HSRT,by rw[HADL.out,fail_ts];have:=HLEN.out;have:=HLX.out.1;have:=HSZ.out;omega,by rw[fail_ts];exact HLT.out.1,fun h=>(fail_e (by decide) h).elim,(tabL_end _ _ _ _ _ _ (not_more (fun h=>fail_e (by decide) h))).trans HZ2.out⟩
    ·have HZ2:Hid (tabL sign either n (s'.ts.length-1) (addE es A B x.m) s2=Z):=by have h:=HZ.out;rw[if_neg h50]at h;exact h
     have H50:=hid h50;clear HZ HX6;go_wp2_with fail;go_roundg (gk-1);case measure=>have:=HGK.out;omega
     case rel=>
      refine⟨_,_,HI6,HSRT,by rw[HADL.out];have:=HLEN.out;have:=HLX.out.1;have:=HSZ.out;omega,HLT.out.1,fun _=>⟨by have:=HLX.out.1;have:=HGK.out;omega,HADA.out ⟨by show 0≤m0+x.m;omega,by show m0+x.m≤50;have:=H50.out;omega⟩⟩,?_⟩;rw[← HZ2.out];exact tabL_fuel _ _ _ _ _ _ _ HLT.out.1 (Nat.le_refl _) (by have:=HLX.out.1;omega)
   |true=>
    have HI5:Hid (TbI w w4 rb tb 238 (rdRest word sign f n) u3 (insE es A B) s2):=by rw[insE_found hfd];exact HI4
    have HX5:=HX4
    clear HI4 HX4 x0 x1 x2 x3 hXl
    dsimp only
    go_upto_region 8 with fail
    have hat:=insE_at es A B
    obtain⟨g,cap,ev,hbg,hgl,hnc,hcm,hfz,hcs⟩:=owns_lines HI5.out.own (by omega)
    have hown5:=HI5.out.own
    rw[ev]at hown5
    obtain⟨_,_,y2,_⟩:=hcs (posE es A B) hat.1
    have hgX:g≠X:=fun e=>by
     have:=HUX.out g (by rw[ev];rfl);omega
    subst ev
    have HF5:=hid (fun (W':World) (hB:Below w4.heap.size w4 W')=>(show W'.frozen? ⟨g,posE es A B*4+2,none⟩=false by rw[hB.frozen hgl];exact hfz _))
    have HY:=hid (fun (W':World) (hB:Below w4.heap.size w4 W')=>(hB.cell hgl).trans y2)
    have hm50:=insE_m HALL.out A B
    have HIA:=hid (insE_all (p:=fun x=>0≤x.m∧x.m≤50) HALL.out A B ⟨by show(0:Int)≤0;decide,by show(0:Int)≤50;decide⟩)
    have HLEN:=hid (insE_len es A B)
    have hpl:=hat.1
    have HALN:=hid (addE_lines es A B x.m)
    have HADL:=hid (addE_len es A B x.m)
    have HADA:=hid (fun h=>addE_all (p:=fun x=>0≤x.m∧x.m≤50) A B x.m HIA.out h)
    have HOW:=hid hown5
    have hgsz:=hgl
    generalize hm0:((insE es A B)[posE es A B]?.getD default).m=m0 at*
    generalize hps:posE es A B=ps at*
    generalize hln5:(insE es A B).length=ln at*
    have hpI:(ps:Int)<(ln:Int):=by omega
    have hp0:(0:Int)≤(ps:Int):=by omega
    have hxm:=HLX.out.2.2.2.2.2
    have wm:IntKind.i64.wrap (m0+x.m)=m0+x.m:=IntWalk.i64_in _ (by omega)
    have wX:=HX5.out.lt
    have HSZ:=hid hsz
    clear hat hfz hcs y2 hown5 hm0 hps hln5 hnc hcm hbg
    let S:World→Prop:=fun W'=>W'.cell? ⟨g,ps*4+2,none⟩=some (.int .i64 m0)∧W'.cell? ⟨X,2,none⟩=some (.int .i64 x.m)
    (refine wp_region_text 10 [0,1,2,3,4,5,6,7,8,9] S (by kernel_rfl) (by kernel_rfl) (by intro _ _ d _ _ h;cases d<;>exact h) ?hS ?_;rotate_left;simp only[xA,xB,xC,xD,xE,xF])
    case hS=>exact⟨HY.out _ (Below.drew (Below.refl _ _)),((HX5.out.below (Below.drew (Below.refl _ _))).cell 2).trans rfl⟩
    (repeat ((refine' wpSeq_take rfl _ (by rfl) ?_ ?_;rotate_left;focus(intro w' hS;(try dsimp only at hS);obtain⟨s1,s2⟩:=hS;go_simp;(first|done|with_reducible rfl));(try go_frame));(try go_frame)))
    refine wpSeq_nil ?_
    clear S
    have f1:=HF5.out _ (Below.drew (Below.refl _ _))
    have y1:=HY.out _ (Below.drew (Below.refl _ _))
    have gl1:g<w4.drew.heap.size:=hgl
    go_upto_region 9 with fail
    have HO6:Hid (((w4.setCell ⟨g,ps*4+2,none⟩ (.int .i64 (m0+x.m))).drew).ownsRow w.heap.size 293 4 (.slice (some ⟨g,0,none⟩) ln cap) (addE es A B x.m).length (linesC (addE es A B x.m))):=by
     show World.ownsRow _ _ _ _ _ _ _;rw[HADL.out,HALN.out];exact(HOW.out.drew.stored (ps*4+2) (.int .i64 (m0+x.m))).1
    have HI6:Hid (TbI w ((w4.setCell ⟨g,ps*4+2,none⟩ (.int .i64 (m0+x.m))).drew) rb tb 238 (rdRest word sign f n) (.slice (some ⟨g,0,none⟩) ln cap) (addE es A B x.m) s2):=
     TbI.row (HI5.out.below (Below.drew (Below.refl _ _))) HO6.out (grown_set _ _ _ _)
    have HX6:Hid (Blk ((w4.setCell ⟨g,ps*4+2,none⟩ (.int .i64 (m0+x.m))).drew) X #[.int .i64 A,.int .i64 B,.int .i64 x.m,.int .i64 x.pl] 293):=(HX5.out.below (Below.drew (Below.refl _ _))).other (Ne.symm hgX) (ps*4+2) (.int .i64 (m0+x.m))
    have y3:((w4.setCell ⟨g,ps*4+2,none⟩ (.int .i64 (m0+x.m))).drew).cell? ⟨g,ps*4+2,none⟩=some (.int .i64 (m0+x.m)):=cell_set_self y1 _
    clear HO6 HOW f1 y1 gl1 HF5 HY HX5 HI5
    generalize (w4.setCell ⟨g,ps*4+2,none⟩ (.int .i64 (m0+x.m))).drew=W6 at*
    have HSRT:=hid (addE_sorted HS.out A B x.m)
    by_cases h50:50<m0+x.m
    ·have HZ2:Hid ((addE es A B x.m,s2.fail 5 x.pl)=Z):=by have h:=HZ.out;rw[if_pos h50]at h;exact h
     have H50:=hid h50;go_upto_region 10 with fail;let S:World→Prop:=fun W'=>W'.cell? ⟨X,3,none⟩=some (.int .i64 x.pl)
     (refine wp_region_text 5 [0,1,2,3,4] S (by kernel_rfl) (by kernel_rfl) (by intro _ _ d _ _ h;cases d<;>exact h) ?hS ?_;rotate_left;simp only[xA,xB,xC,xD,xE,xF]);case hS=>exact((HX6.out.below (Below.drew (Below.refl _ _))).cell 3).trans rfl
     (repeat ((refine' wpSeq_take rfl _ (by rfl) ?_ ?_;rotate_left;focus(intro w' hS;(try dsimp only at hS);have s1:w'.cell? ⟨X,3,none⟩=some (.int .i64 x.pl):=hS;go_simp;(first|done|with_reducible rfl));(try go_frame));(try go_frame)));refine wpSeq_nil ?_;clear S;have HI7:=hid (HI6.out.below (Below.drew (Below.refl _ _)));clear HI6 y3 HX6 h50 HZ;go_wp2_with fail;refine(t_fail _ rb tb _ _ s2 HI7.out.tk 5 x.pl).mono ?_;rintro e w8 ⟨rfl,ht8,hg8⟩;have HI8:=hid (HI7.out.step ht8 hg8);clear ht8 hg8 HI7;dsimp only;go_wp2_with fail;go_roundg (gk-1);case measure=>have:=HGK.out;omega
     case rel=>exact⟨_,_,HI8,HSRT,by rw[HADL.out,fail_ts];have:=HLEN.out;have:=HLX.out.1;have:=HSZ.out;omega,by rw[fail_ts];exact HLT.out.1,fun h=>(fail_e (by decide) h).elim,(tabL_end _ _ _ _ _ _ (not_more (fun h=>fail_e (by decide) h))).trans HZ2.out⟩
    ·have HZ2:Hid (tabL sign either n (s'.ts.length-1) (addE es A B x.m) s2=Z):=by have h:=HZ.out;rw[if_neg h50]at h;exact h
     have H50:=hid h50;clear HZ HX6;go_wp2_with fail;go_roundg (gk-1);case measure=>have:=HGK.out;omega
     case rel=>
      refine⟨_,_,HI6,HSRT,by rw[HADL.out];have:=HLEN.out;have:=HLX.out.1;have:=HSZ.out;omega,HLT.out.1,fun _=>⟨by have:=HLX.out.1;have:=HGK.out;omega,HADA.out ⟨by show 0≤m0+x.m;omega,by show m0+x.m≤50;have:=H50.out;omega⟩⟩,?_⟩;rw[← HZ2.out];exact tabL_fuel _ _ _ _ _ _ _ HLT.out.1 (Nat.le_refl _) (by have:=HLX.out.1;omega)
theorem n_tableE (rest:List Value)(s:Rs)(rb tb:Nat)(w:World)(hm:s.more=false)(hT:Tk w rb tb 238 rest s):
 Calls Tryz.prog 175 #[.pointer (some ⟨rb,0,none⟩)] w (RetTab w rb tb 238 rest ([],s)):=by
 have HT:=hid hT;have HM:=hid hm;clear hm hT;go_enter Tryz.func175,Tryz.ntmps175;go_wp2_with fail;go_loopg [3] 1 (fun k v wr=>v= .slice none 0 0∧Hid (wr=w));case atStart=>exact⟨rfl,rfl⟩
 case round=>
  obtain⟨rfl,hw⟩:=hrel;obtain rfl:=hw.out;go_wp2_with fail;refine(t_more _ rb tb _ _ s HT.out).mono ?_;rintro e w1 ⟨rfl,hB1⟩;rw[HM.out];dsimp only;go_wp2_with fail;go_ret;exact⟨_,rfl,⟨rfl,.inl ⟨rfl,rfl⟩⟩,HT.out.below hB1,grown_of hB1 _⟩
def LinesR (w:World)(v:Value)(es:List E):Prop:=
 ∃a cap,v= .slice a es.length cap∧es.length≤cap∧cap≤9223372036854775807∧(es=[]∨∃b off,a=some ⟨b,off,none⟩∧b<w.heap.size∧∀k,k<es.length→
  w.cell? ⟨b,off+k*4,none⟩=some (.int .i64 (es[k]?.getD default).a)∧w.cell? ⟨b,off+k*4+1,none⟩=some (.int .i64 (es[k]?.getD default).b)∧
  w.cell? ⟨b,off+k*4+2,none⟩=some (.int .i64 (es[k]?.getD default).m)∧∃p,w.cell? ⟨b,off+k*4+3,none⟩=some (.int .i64 p))
theorem LinesR.below {w w':World}{v:Value}{es:List E}(h:LinesR w v es)(hb:Below w.heap.size w w'):LinesR w' v es:=by
 obtain⟨a,cap,h1,h2,h3,h4⟩:=h;refine⟨a,cap,h1,h2,h3,?_⟩;rcases h4 with h4|⟨b,off,rfl,hl,hc⟩
 ·exact .inl h4
 ·refine .inr ⟨b,off,rfl,Nat.lt_of_lt_of_le hl hb.size,fun k hk=> ?_⟩
  obtain⟨c0,c1,c2,p,c3⟩:=hc k hk;exact⟨(hb.cell (p:=⟨b,_,none⟩) hl).trans c0,(hb.cell (p:=⟨b,_,none⟩) hl).trans c1,(hb.cell (p:=⟨b,_,none⟩) hl).trans c2,p,(hb.cell (p:=⟨b,_,none⟩) hl).trans c3⟩
theorem owns_linesR {w:World}{base:Nat}{e:TypeId}{v:Value}{es:List E}(h:w.ownsRow base e 4 v es.length (linesC es)):LinesR w v es:=by
 by_cases h0:0<es.length
 ·obtain⟨g,cap,rfl,_,hl,h1,h2,_,hc⟩:=owns_lines h h0
  refine⟨_,cap,rfl,h1,h2,.inr ⟨g,0,rfl,hl,fun k hk=> ?_⟩⟩;obtain⟨c0,c1,c2,c3⟩:=hc k hk;exact⟨by rw[Nat.zero_add];exact c0,by rw[Nat.zero_add];exact c1,by rw[Nat.zero_add];exact c2,0,by rw[Nat.zero_add];exact c3⟩
 ·obtain rfl:es=[]:=List.eq_nil_of_length_eq_zero (by omega)
  obtain⟨a,cap,rfl,h1,h2,_⟩:=owns_at h;exact⟨_,_,rfl,h1,h2,.inl rfl⟩
theorem und_edges:Tryz.prog.underlying 26=some (.slice 150):=by kernel_rfl
theorem info_edge:(Tryz.prog.info? 150).map (fun i=>(i.zero,i.size,i.bytes))=some (some (.agg #[.int .i64 0,.int .i64 0,.int .i64 0]),3,24):=by kernel_rfl
theorem trip_news (w:World)(x y z:Int)(e:TypeId)(j:Nat)(u:Value)(h:[Value.int .i64 x,Value.int .i64 y,Value.int .i64 z][j]? =some u):(w.alloc (.cells #[.int .i64 x,.int .i64 y,.int .i64 z] e)).cell? ((⟨w.heap.size,0,none⟩:Addr).add j)=some u:=by
 have e1:(⟨w.heap.size,0,none⟩:Addr).add j=⟨w.heap.size,j,none⟩:=by unfold Addr.add;split<;>simp_all
 rw[e1,World.cell?_alloc_new];simpa using h
theorem flat_append (a b:List E):(a++b).flatMap E.cells=a.flatMap E.cells++b.flatMap E.cells:=by simp
theorem owns_edges {w:World}{base:Nat}{e:TypeId}{v:Value}{es:List E}(h:w.ownsRow base e 3 v es.length (es.flatMap E.cells))(hb:es.length*24≤140737488355328):EdgesR w v es:=by
 obtain⟨a,cap,h1,h2,h3,h4⟩:=owns_at h;exact⟨a,cap,h1,h2,h3,hb,h4⟩
theorem load_gr {w:World}{T:TypeId}(hT:T=28){b:Nat}{v0 v1:Value}(h:Blk w b #[v0,v1] T):(loadVar 28 ⟨b,0,none⟩).run Tryz.prog w= .ok (.agg #[v0,v1]) w:=by
 subst hT;have hlt:=h.lt;have c0:=h.cell 0;have c1:=h.cell 1;simp only[xG,xH,xI]at c0 c1;go_simp
theorem n_of (n:Int)(es:List E)(v:Value)(w:World)(hL:LinesR w v es)(hes:es.length≤1000000):
 Calls Tryz.prog 176 #[.int .i64 n,v] w fun e w'=>∃ev,e= .returned (.agg #[.int .i64 n,ev])∧w'.ownsRow w.heap.size 150 3 ev es.length (es.flatMap E.cells)∧Below w.heap.size w w':=by
 obtain⟨i0,hi,hz0,hz1,hz2⟩:=info_parts info_edge;have HL:=hid hL;obtain⟨a,cap,rfl,hcap,hcm,_⟩:=hL;go_enter Tryz.func176,Tryz.ntmps176;go_wp2_with fail
 go_loopw [12] (fun i wr=>∃k:Nat,∃u:Value,k≤es.length∧i= .int .i64 k∧Hid (Blk wr w.heap.size #[.int .i64 0,.slice none 0 0] 28)∧Hid (Blk wr (w.heap.size+1) #[.int .i64 n,u] 28)∧Hid (wr.ownsRow (w.heap.size+2) 150 3 u k ((es.take k).flatMap E.cells))∧Hid (Below w.heap.size w wr))
  (fun i _=>es.length-(intOf i).toNat)
 case atStart=>exact⟨0,_,Nat.zero_le _,rfl,(Blk.new w #[.int .i64 0,.slice none 0 0] 28).alloc _,(by
  have h:=Blk.new (w.alloc (.cells #[.int .i64 0,.slice none 0 0] 28)) #[.int .i64 n,.slice none 0 0] 28;rwa[show (w.alloc (.cells #[.int .i64 0,.slice none 0 0] 28)).heap.size=w.heap.size+1 by simp]at h),World.ownsRow_nil _ _ _ _,by show Below _ _ _;go_grown⟩
 case round=>
  obtain⟨k,u,hkn,rfl,HR0,HB0,HO,HB⟩:=hrel;by_cases hlt:k<es.length
  ·obtain⟨a',cap',ea,_,_,hc⟩:=HL.out.below HB.out
   injection ea with ea1 _ ea3
   subst ea1;rcases hc with rfl|⟨b,off,rfl,hb,hc⟩
   ·simp at hlt
   obtain⟨c0,c1,c2,p,c3⟩:=hc k hlt;have hst:=hid (take_step es k hlt);have hlt':(k:Int)<(es.length:Int):=by omega
   have hk0:(0:Int)≤(k:Int):=by omega
   clear hc;generalize hx:es[k]?.getD default=x at*
   obtain⟨xa,xb,xm⟩:=x;dsimp only at c0 c1 c2;clear hx;go_upto_region 5 with fail;have hs:=HB.out.size;have hbw:w.heap.size+2≤wr.heap.size:=by
    have:=HB0.out.lt;omega
   have HX:=hid (Blk.new wr #[.int .i64 xa,.int .i64 xb,.int .i64 xm,.int .i64 p] 293);have HR1:=hid (HR0.out.alloc (.cells #[.int .i64 xa,.int .i64 xb,.int .i64 xm,.int .i64 p] 293));have HB1:=hid (HB0.out.alloc (.cells #[.int .i64 xa,.int .i64 xb,.int .i64 xm,.int .i64 p] 293));have HO1:=hid (HO.out.alloc (.cells #[.int .i64 xa,.int .i64 xb,.int .i64 xm,.int .i64 p] 293));have HB2:=hid (HB.out.alloc hs (.cells #[.int .i64 xa,.int .i64 xb,.int .i64 xm,.int .i64 p] 293));have hGX:w.heap.size+1<wr.heap.size:=HB0.out.lt;generalize hX:wr.heap.size=X at*
   generalize wr.alloc (.cells #[.int .i64 xa,.int .i64 xb,.int .i64 xm,.int .i64 p] 293)=W1 at*
   have x0:=HX.out.cell 0;have x1:=HX.out.cell 1;have x2:=HX.out.cell 2;have g0:=HB1.out.cell 0;have g1:=HB1.out.cell 1;simp only[xG,xH,xI]at x0 x1 x2 g0 g1;have hXl:=HX.out.lt;have hGl:=HB1.out.lt;have hs1:=HB2.out.size;clear c0 c1 c2 c3 HB0 HO HB HR0;have hne:u.ownBlock≠some (w.heap.size+1):=fun e=>by have:=(HO1.out.lt _ e).1;omega
   go_wp2_with (at_builtin;refine wpList_append_own _ rfl _ _ 26 rfl (w.heap.size+2) 150 i0 (.agg #[.int .i64 0,.int .i64 0,.int .i64 0]) 3 24 und_edges hi hz0 hz1 hz2 rfl (by decide) _ k _ rfl (HO1.out.alloc _) ⟨W1.heap.size,0,none⟩ 1 1 [.int .i64 xa,.int .i64 xb,.int .i64 xm] rfl rfl (fun j u h=>trip_news W1 xa xb xm _ j u h) (by simp[Value.oneCell']) (by unfold maxLen;omega) (by omega) (by simp;omega) ?_;intro v' w2 hown2 hgr2 _;have HO2:=hid hown2;have HG:=hid ((Below.toGrown ((Below.refl _ W1).alloc (Nat.le_refl _) (.cells #[.int .i64 xa,.int .i64 xb,.int .i64 xm] 150)) u.ownBlock).trans hgr2);obtain⟨av,cv,ev,_⟩:=owns_at hown2;subst ev;have HG2:=hid (HB1.out.grown HG.out hne);have g3:=HG2.out.cell 1;simp only[xG,xH,xI]at g3;have g4:=HG2.out.frozen 1;have g5:=HG2.out.lt;clear hown2 hgr2)
   go_roundw
   case rel=>
    refine⟨k+1,by omega,by go_num,?_,.slice av (k+1) cv,?_,?_,?_⟩
    ·show Blk _ _ _ _
     exact(HR1.out.grown HG.out (fun e=>by have:=(HO1.out.lt _ e).1;omega)).other (by omega) 1 _
    ·show Blk _ _ (#[Value.int .i64 n,u].setIfInBounds 1 (.slice av (k+1) cv)) _
     exact HG2.out.set 1 _
    ·show World.ownsRow _ _ _ _ _ _ _
     rw[hst.out,flat_append];exact HG2.out.owns HO2.out (fun e=>by have:=(HO2.out.lt _ e).1;omega) 1 _
    ·show Below _ _ _
     exact(HB2.out.grown HG.out hs1 (fun q hq=>by have:=(HO1.out.lt q hq).1;omega)).setCell (show w.heap.size≤w.heap.size+1 by omega) _
   case measure=>simp[intOf];omega
  ·obtain rfl:k=es.length:=by omega
   rw[List.take_length]at HO;have hlt':¬(es.length:Int)<(es.length:Int):=by omega
   have g0:=HB0.out.cell 0;have g1:=HB0.out.cell 1;have r0:=HR0.out.cell 0;have r1:=HR0.out.cell 1;simp only[xG,xH,xI]at g0 g1 r0 r1;have g4:=HR0.out.frozen 0;have g5:=HR0.out.frozen 1;have hR:=HR0.out.lt;have hG:=HB0.out.lt;clear HL hcap hcm;obtain⟨au,cu,eu,_⟩:=owns_at HO.out;subst eu;go_wp2_with fail;have HR2:=hid ((HR0.out.set 0 (.int .i64 n)).set 1 (.slice au es.length cu));refine bodyPost_ret (results_cell1' rfl rfl (load_gr rfl HR2.out)) rfl ?_;refine⟨_,rfl,owns_base (base:=w.heap.size+2) ?_ (by omega),?_⟩
   ·exact(HR0.out.set 0 (.int .i64 n)).owns (HR0.out.owns HO.out (fun e=>by have:=(HO.out.lt _ e).1;omega) 0 _) (fun e=>by have:=(HO.out.lt _ e).1;omega) 1 _
   ·exact(HB.out.setCell (Nat.le_refl _) _).setCell (Nat.le_refl _) _
theorem head_ok {word:List UInt8}{s:Rs}(h:(s.head word).2.e=0):1≤(s.head word).1∧(s.head word).1≤12:=by
 unfold Rs.head at h⊢;dsimp only at h⊢;have h1:=(Rs.is_kind (need_ok h).1).2.1;exact⟨(num_ok h1).2.2.2.1,(num_ok h1).2.2.2.2⟩
theorem tabL_len (sign:UInt8)(either:Bool)(n:Int):∀f es s,(tabL sign either n f es s).1.length≤es.length+f
 |0,es,s=>by simp[tabL]
 |f+1,es,s=>by
  unfold tabL;have ha:=fun a b m=>addE_len es a b m;have hl:=fun a b=>(insE_len es a b).2;split
  ·simp
  ·dsimp only
   split
   ·simp
   ·split
    ·rw[ha];have:=hl (lo either (s.line sign n).1) (hi either (s.line sign n).1);omega
    ·have h1:=tabL_len sign either n f (addE es (lo either (s.line sign n).1) (hi either (s.line sign n).1) (s.line sign n).1.m) (s.line sign n).2
     rw[ha]at h1;have:=hl (lo either (s.line sign n).1) (hi either (s.line sign n).1);omega
def tableP (word:List UInt8)(sign:UInt8)(either:Bool)(s:Rs):G×Int×Int:=
 let h:=s.head word
 let t:=tabL sign either h.1 h.2.ts.length [] h.2
 if t.2.e≠0 then(⟨0,[]⟩,t.2.pl,t.2.e)else(⟨h.1,t.1⟩,0,0)
def RetRdF (w:World)(z:G×Int×Int)(e:Ending)(w':World):Prop:=
 ∃gv,e= .returned (.tuple #[gv,.int .i64 z.2.1,.int .i64 z.2.2])∧GrR w' gv z.1∧(∀ n ev g,gv= .agg #[n,ev]→ev.ownBlock=some g→w.heap.size≤g)∧Below w.heap.size w w'
theorem n_tableA (either:Bool)(sign:UInt8)(word:List UInt8)(f:Nat)(hf:EndsF f either)(hfn:∀args w,(callFunc f args).run Tryz.prog w= .ok (.enter f args) w)(n:Int)(s:Rs)(hn:s.e=0→1≤n∧n≤12)(rb tb:Nat)(w:World)(hE:EnvB w rb)(hT:Tk w rb tb 238 (rdRest word sign f n) s):
 Calls Tryz.prog 175 #[.pointer (some ⟨rb,0,none⟩)] w (RetTab w rb tb 238 (rdRest word sign f n) (tabL sign either n s.ts.length [] s)):=by
 cases hm:s.more with
 |true=>
  have he:s.e=0:=by unfold Rs.more at hm;simp at hm;exact hm.1
  exact n_table either sign word f hf hfn n (hn he).1 (hn he).2 s rb tb w hE hT
 |false=>
  have h0:=hT.1.1
  obtain⟨q,hq⟩:∃q,s.ts.length=q+1:=⟨s.ts.length-1,by omega⟩
  rw[hq]
  unfold tabL
  rw[if_pos hm]
  exact n_tableE _ s rb tb w hm hT
theorem fn_sorted (args:Array Value)(w:World):(callFunc 222 args).run Tryz.prog w= .ok (.enter 222 args) w:=by go_simp
theorem results_cell3 {P:Program}{fn:Func}{k i j:Nat}{t:TypeId}(h:fn.results= #[.cell k t,.tmp i,.tmp j]){tmps:Array Value}{b:Nat}{v:Value}{w:World}(ht:tmps[k]?.getD undef= .pointer (some ⟨b,0,none⟩))
 (hl:(loadVar t ⟨b,0,none⟩).run P w= .ok v w):(results fn tmps).run P w= .ok (.tuple #[v,tmps.getD i undef,tmps.getD j undef]) w:=by
 simp[results,h,ht,asAddr,hl]
theorem gr_zero (w:World):GrR w (.agg #[.int .i64 0,.slice none 0 0]) ⟨0,[]⟩:=⟨_,rfl,none,0,rfl,Nat.le_refl _,by omega,by decide,.inl rfl⟩
theorem tabL_ok {s:Rs}(h:TsOk s.ts)(sign:UInt8)(either:Bool)(n:Int):(tabL sign either n s.ts.length [] s).1.length≤1000000:=by
 have:=tabL_len sign either n s.ts.length [] s;have:=h.2.1;simp at*
 omega
theorem n_ReadGraphF (text:List UInt8)(w:World)(hE:Env w):
 Calls Tryz.prog 114 #[.string (str text)] w (RetRdF w (tableP wGraph 45 true (opened (scanR text)))):=by
 obtain⟨Z,hZ⟩:∃Z,Z=tableP wGraph 45 true (opened (scanR text)):=⟨_,rfl⟩;rw[← hZ];have HZ:=hid hZ;clear hZ;have HE:=hid hE;clear hE;go_enter Tryz.func114,Tryz.ntmps114;go_wp2_with fail;obtain⟨W0,hW0⟩:∃W:World,W=w.alloc (.cells #[.int .i64 0,.slice none 0 0] 28):=⟨_,rfl⟩;rw[← hW0];have HR:=hid (show Blk W0 w.heap.size #[.int .i64 0,.slice none 0 0] 28 by rw[hW0];exact Blk.new _ _ _);have HB0:=hid (show Below w.heap.size w W0 by rw[hW0];exact(Below.refl _ _).alloc (Nat.le_refl _) _);clear hW0;refine(n_graphs W0).mono ?_;rintro e w1 ⟨rfl,hB1⟩;have HB1:=hid (up HB0.out hB1);have HR1:=hid (HR.out.below hB1)
 have HE1:=hid ((HE.out.below HB0.out).below hB1);clear hB1 HB0 HR HE;dsimp only;go_wp2_with fail;refine(n_begin text wGraph 45 222 w1 HE1.out).mono ?_;rintro e w2 ⟨rb,tb,rfl,hrb,hT,hB2⟩;have HB2:=hid (up HB1.out hB2);have HR2:=hid (HR1.out.below hB2);have HE2:=hid ((HE1.out.atB hrb).below hB2);have HRB:Hid (w.heap.size<rb):=by show _<_;have:=HR1.out.lt;omega
 unfold tableP at HZ;dsimp only at HZ;generalize hh:(opened (scanR text)).head wGraph=h at*
 have hn:h.2.e=0→1≤h.1∧h.1≤12:=fun e=>by rw[← hh]at e ⊢;exact head_ok e
 obtain⟨n,s⟩:=h;dsimp only at HZ hn hT;have HTL:=hid (tabL_ok hT.1 45 true n);dsimp only;go_wp2_with fail;refine(n_tableA true 45 wGraph 222 ends_sorted fn_sorted n s hn rb tb w2 HE2.out hT).mono ?_;rintro e w3 ⟨v,rfl,ho,ht,hg⟩;clear hh hn hT hB2 hrb HB1 HR1 HE1;generalize tabL 45 true n s.ts.length [] s=t at*
 obtain⟨es,s'⟩:=t;dsimp only at HZ ho ht HTL;have HR3:=hid (HR2.out.grown hg (fun e=>by have:=HRB.out;simp at e;omega));have HB3:Hid (Below w.heap.size w w3):=HB2.out.grown hg HB2.out.size (fun q hq=>by have:=HRB.out;simp at hq;omega);have HO:=hid ho;have HT:=hid ht;clear ho ht hg HB2 HR2 HE2;have c1:=HT.out.rest.1;have c6:=HT.out.rest.2.2.2.2;obtain⟨off,cap,d1,d2,d3,d4,d5,d6,d7,d8,d9,d10,d11,d12⟩:=HT.out.cells;have hrl:=HT.out.lt;have HC1:=hid d7;have HC2:=hid d8;clear d1 d2 d3 d4 d5 d6 d7 d8 d9 d10 d11 d12;by_cases he:s'.e=0
 ·rw[he]at c1
  have HZ2:Hid (Z=(⟨n,es⟩,0,0)):=by have h:=HZ.out;rw[if_neg (by rw[he];simp)]at h;exact h
  clear HZ he;go_wp2_with fail;refine(n_of n es v w3 (owns_linesR HO.out) HTL.out).mono ?_;rintro e w4 ⟨ev,rfl,hev,hB4⟩;have HR4:=hid (HR3.out.below hB4);have HB4:=hid (up HB3.out hB4);have HEV:=hid hev;clear hB4 hev c1 c6 HC1 HC2;obtain⟨ea,ecap,ee,_⟩:=owns_at HEV.out;subst ee;have r0:=HR4.out.cell 0;have r1:=HR4.out.cell 1;simp only[xG,xH,xI]at r0 r1;have f0:=HR4.out.frozen 0;have f1:=HR4.out.frozen 1;have rl:=HR4.out.lt;dsimp only;go_wp2_with fail;have HR5:=hid ((HR4.out.set 0 (.int .i64 n)).set 1 (.slice ea es.length ecap));rw[HZ2.out];refine bodyPost_ret (results_cell3 rfl rfl (load_gr rfl HR5.out)) rfl ⟨_,rfl,⟨_,rfl,?_⟩,(fun n' ev' g' h1 h2=> ?_),?_⟩
  ·have hq:(Value.slice ea es.length ecap).ownBlock≠some w.heap.size:=fun e=>by have:=(HEV.out.lt _ e).1;have:=HR3.out.lt;omega
   exact owns_edges ((HR4.out.set 0 (.int .i64 n)).owns (HR4.out.owns HEV.out hq 0 _) hq 1 _) (show es.length*24≤140737488355328 by have:=HTL.out;omega)
  ·have h1:=congrArg (fun v=>match v with| .agg c=>c.toList|_=>[]) h1
   simp only[List.cons.injEq,and_true]at h1;obtain⟨_,rfl⟩:=h1;have:=(HEV.out.lt _ h2).1;have:=HR3.out.lt;omega
  ·exact(HB4.out.setCell (Nat.le_refl _) _).setCell (Nat.le_refl _) _
 ·have HZ2:Hid (Z=(⟨0,[]⟩,s'.pl,s'.e)):=by have h:=HZ.out;rw[if_pos he]at h;exact h
  have he1:(s'.e !=0)=true:=by simpa using he
  clear HZ he;go_upto_region 4 with fail;have r0:=HR3.out.cell 0;have r1:=HR3.out.cell 1;simp only[xG,xH,xI]at r0 r1;have hne:rb≠w.heap.size:=by have:=HRB.out;omega
  let S:World→Prop:=fun W'=>W'.cell? ⟨rb,1,none⟩=some (.int .i64 s'.e)∧W'.cell? ⟨rb,2,none⟩=some (.int .i64 s'.pl)
  (refine wp_region_text 13 [0,1,2,3,4,5,6,7,8,9,10,11,12] S (by kernel_rfl) (by kernel_rfl) (by intro _ _ d _ _ h;cases d<;>exact h) ?hS ?_;rotate_left;simp only[xA,xB,xC,xD,xE,xF]);case hS=>exact⟨HC1.out,HC2.out⟩
  (repeat ((refine' wpSeq_take rfl _ (by rfl) ?_ ?_;rotate_left;focus(intro w' hS;(try dsimp only at hS);obtain⟨s1,s2⟩:=hS;go_simp;(first|done|with_reducible rfl));(try go_frame));(try go_frame)));refine wpSeq_call rfl (by rfl) (fun K hK=> ?_);have r0':(w3.drew).cell? ⟨w.heap.size,0,none⟩=some (.int .i64 0):=r0;have r1':(w3.drew).cell? ⟨w.heap.size,1,none⟩=some (.slice none 0 0):=r1;have f0:(w3.drew).frozen? ⟨w.heap.size,0,none⟩=false:=HR3.out.frozen 0;have f1:(w3.drew).frozen? ⟨w.heap.size,1,none⟩=false:=HR3.out.frozen 1;have rl:w.heap.size<(w3.drew).heap.size:=HR3.out.lt;have g0:=HR3.out.frozen 0
  have g1:=HR3.out.frozen 1;have hS3:S (((w3.setCell ⟨w.heap.size,0,none⟩ (.int .i64 0)).setCell ⟨w.heap.size,1,none⟩ (.slice none 0 0)).drew):=by
   constructor
   ·show World.cell? (World.setCell (World.setCell _ _ _) _ _) _=_
    rw[World.cell?_setCell_far _ _ _ _ (fun e=>hne e.symm),World.cell?_setCell_far _ _ _ _ (fun e=>hne e.symm)];exact HC1.out
   ·show World.cell? (World.setCell (World.setCell _ _ _) _ _) _=_
    rw[World.cell?_setCell_far _ _ _ _ (fun e=>hne e.symm),World.cell?_setCell_far _ _ _ _ (fun e=>hne e.symm)];exact HC2.out
  go_simp;refine hK _ _ hS3 ?_;clear hK K;(try go_frame);(repeat ((refine' wpSeq_take rfl _ (by rfl) ?_ ?_;rotate_left;focus(intro w' hS;(try dsimp only at hS);obtain⟨s1,s2⟩:=hS;go_simp;(first|done|with_reducible rfl));(try go_frame));(try go_frame)));refine wpSeq_nil ?_;have HR4:=hid ((HR3.out.set 0 (.int .i64 0)).set 1 (.slice none 0 0));clear hS3 S r0 r1 r0' r1' f0 f1 g0 g1;go_wp2_with fail;rw[HZ2.out];refine bodyPost_ret (results_cell3 rfl rfl (load_gr rfl (Blk.drew HR4.out))) rfl ⟨_,rfl,gr_zero _,(fun n' ev' g' h1 h2=> ?_),?_⟩
  ·have h1:=congrArg (fun v=>match v with| .agg c=>c.toList|_=>[]) h1
   simp only[List.cons.injEq,and_true]at h1;obtain⟨_,rfl⟩:=h1;cases h2
  exact(((HB3.out.setCell (Nat.le_refl _) _).setCell (Nat.le_refl _) _).drew)
theorem Tk.all {w:World}{b tb:Nat}{T:TypeId}{rest:List Value}{s:Rs}(h:Tk w b tb T rest s):
 ∃off cap,tb<w.heap.size∧tb≠b∧s.ts.length≤cap∧cap≤9223372036854775807∧w.cell? ⟨b,0,none⟩=some (.slice (some ⟨tb,off,none⟩) s.ts.length cap)∧ToksR w (.slice (some ⟨tb,off,none⟩) s.ts.length cap) s.ts∧
  ∀i,i<s.ts.length→w.cell? ⟨tb,off+i*3,none⟩=some (.int .i64 (s.ts[i]?.getD default).kind)∧w.cell? ⟨tb,off+i*3+1,none⟩=some (.string (str (s.ts[i]?.getD default).text))∧w.cell? ⟨tb,off+i*3+2,none⟩=some (.int .i64 (s.ts[i]?.getD default).pos):=by
 obtain⟨h0,off,cap,hb,hne,ht⟩:=h;have ht':=ht;obtain⟨a',cap',e,h2,h3,h4,h5⟩:=ht;injection e with e1 e2 e3
 subst e1 e3;obtain⟨b',off',e,hlt,hc⟩:=h5.tok h0.1;obtain⟨rfl,rfl⟩:tb=b'∧off=off':=by simpa using e
 have d0:=hb.cell 0;simp only[xG,xH,xI]at d0;exact⟨off,cap,hlt,hne,h2,h3,d0,ht',hc⟩
theorem und_ints:Tryz.prog.underlying 29=some (.slice 3):=by kernel_rfl
theorem info_int:(Tryz.prog.info? 3).map (fun i=>(i.zero,i.size,i.bytes))=some (some (.int .i64 0),1,8):=by kernel_rfl
structure RiI (w0 w:World)(rb tb nb:Nat)(ncs:Array Value)(pl:Int)(v:Value)(out:List Int)(ts:List Tok):Prop where
 own:w.ownsRow w0.heap.size 3 1 v out.length (out.map (Value.int .i64))
 tk:Tk w rb tb 236 [] ⟨ts,0,pl⟩
 bnb:Blk w nb ncs 307
 g:w0.grownBy w (some rb)
 hrb:rb<w0.heap.size
 htb:tb<w0.heap.size
 hnb:nb<w0.heap.size
 hne:nb≠rb
section
variable {w0 w w' : World} {rb tb nb : Nat} {ncs : Array Value} {pl : Int} {v v' : Value} {out out' : List Int} {ts ts' : List Tok}
theorem RiI.step (h:RiI w0 w rb tb nb ncs pl v out ts)(ht:Tk w' rb tb 236 [] ⟨ts',0,pl⟩)(hg:w.grownBy w' (some rb)):RiI w0 w' rb tb nb ncs pl v out ts':=
 ⟨h.own.kept hg (by
   cases hv:v.ownBlock with
   |none=>exact .inl rfl
   |some k=>exact .inr (by have:=(h.own.lt k hv).1;have:=h.hrb;simp;omega)),ht,h.bnb.grown hg (fun e=>h.hne (by simpa using e.symm)),grown_trans h.g hg,h.hrb,h.htb,h.hnb,h.hne⟩
theorem RiI.below (h:RiI w0 w rb tb nb ncs pl v out ts)(hB:Below w.heap.size w w'):RiI w0 w' rb tb nb ncs pl v out ts:=h.step (h.tk.below hB) (grown_of hB _)
theorem RiI.row (h:RiI w0 w rb tb nb ncs pl v out ts)(ho:w'.ownsRow w0.heap.size 3 1 v' out'.length (out'.map (Value.int .i64)))(hg:w.grownBy w' v.ownBlock):RiI w0 w' rb tb nb ncs pl v' out' ts:=by
 have hb:∀k,v.ownBlock=some k→w0.heap.size≤k:=fun k hk=>(h.own.lt k hk).1;have hrb:=h.hrb;have htb:=h.htb;have hnb:=h.hnb;refine⟨ho,h.tk.grownR hg (fun e=>by have:=hb _ e;omega) (fun e=>by have:=hb _ e;omega),h.bnb.grown hg (fun e=>by have:=hb _ e;omega),⟨h.g.os▸hg.os,h.g.tape▸hg.tape,h.g.output▸hg.output,Nat.le_trans h.g.size hg.size,fun k hk hne=> ?_⟩,hrb,htb,hnb,h.hne⟩;rw[hg.block k (Nat.lt_of_lt_of_le hk h.g.size) (fun e=>by have:=hb _ e.symm;omega)];exact h.g.block k hk hne
end
end Go.Proofs.YtclgllmipcbagaaGreatDoor
