/-
  Parts of the proof: XSv XSw XReg2 XSx XSy XSz XT1
-/
import Derived.Maps.AppendAt
import Derived.Test.YtclgllmipcbagaaGreatDoorBk18
import Derived.Test.YtclgllmipcbagaaGreatDoorBk00
import Derived.Shelf.Small.Strs
namespace Go.Proofs.YtclgllmipcbagaaGreatDoor
open Go.RowKit
set_option linter.unusedVariables false
set_option linter.unusedSimpArgs false
set_option maxRecDepth 100000
set_option maxHeartbeats 16000000
def RetCopy (l:List Ob)(w:World)(e:Ending)(w':World):Prop:=∃v,e= .returned v∧ObsR (cutW w.heap.size w') v l∧Below w.heap.size w w'
theorem EdgesR.fresh {w w1:World}{v u:Value}{l:List E}{B:Nat}(h:EdgesR w1 v l)(hf:∀k,v.ownBlock=some k→w.heap.size≤k)(hB:B≤w.heap.size)(hu:∀g,u.ownBlock=some g→g<w.heap.size):EdgesR (cutW B (Go.Proofs.YtclgllmipcbagaaGreatDoor.msk u w1)) v l:=
 h.view (by rw[cut_size,msk_size];exact Nat.le_refl _) fun g e p hp=>by
  have:=hf g e;rw[cut_cell' (by omega),msk_cell'];intro e2;have:=hu _ e2;omega
theorem IntsR.fresh {w w1:World}{v u:Value}{l:List Int}{B:Nat}(h:IntsR w1 v l)(hf:∀k,v.ownBlock=some k→w.heap.size≤k)(hB:B≤w.heap.size)(hu:∀g,u.ownBlock=some g→g<w.heap.size):IntsR (cutW B (Go.Proofs.YtclgllmipcbagaaGreatDoor.msk u w1)) v l:=
 h.view (by rw[cut_size,msk_size];exact Nat.le_refl _) fun g e p hp=>by
  have:=hf g e;rw[cut_cell' (by omega),msk_cell'];intro e2;have:=hu _ e2;omega
theorem CellsAt.cut {w:World}{a:Option Addr}{cs:List Value}{B:Nat}(h:CellsAt w a cs)(hb:∀n c g,(Value.slice a n c).ownBlock=some g→B≤g):CellsAt (cutW B w) a cs:=
 h.view (by rw[cut_size];exact Nat.le_refl _) fun g e p hp=>cut_cell' (by have:=hb 0 0 g (e 0 0);omega)
theorem s_list (l:List Ob)(v:Value)(w:World)(hl:ObsR w v l):
 Calls Tryz.prog 91 #[v] w (RetCopy l w):=by
 obtain⟨a,cap,rfl,hcap,hcm,hln⟩:=hl.form;have HL:=hid hl;clear hl;obtain⟨i0,hi,hz0,hz1,hz2⟩:=info_parts info_ob;go_enter Tryz.func91,Tryz.ntmps91;go_wp2_with fail;go_loopw [3,8] (fun u i wr=>∃k:Nat,∃zs:List (List Value),k≤l.length∧i= .int .i64 k∧Hid (wr.ownsRow w.heap.size 67 5 u k zs.flatten)∧Hid (ObC (cutW w.heap.size (msk u wr)) zs (l.take k))∧Hid (Below w.heap.size w wr)) (fun _ i _=>l.length-(intOf i).toNat);case atStart=>exact⟨0,[],Nat.zero_le _,rfl,World.ownsRow_nil _ _ _ _,ObC.nil _,Below.refl _ _⟩
 case round=>
  obtain⟨k,zs,hk,rfl,HO,HC,HB⟩:=hrel;obtain⟨wo,rfl⟩:∃wo:World,wo=wr:=⟨_,rfl⟩;have hk0:(0:Int)≤(k:Int):=by omega
  by_cases hlt:k<l.length
  ·have hlt':(k:Int)<(l.length:Int):=by omega
   have wk:IntKind.i64.wrap ((k:Int)+1)=(k:Int)+1:=IntWalk.i64_in _ (by omega);obtain⟨b,off,ea,ec,da,dc,rfl,hb,c0,c1,c2,c3,c4,he,hd⟩:=HL.out.atB HB.out k hlt;have HST:=hid (take_step l k hlt);have HU:Hid (∀ g,u3.ownBlock=some g→w.heap.size≤g∧g<wo.heap.size):=fun g e=>HO.out.lt g e;have hs:=HB.out.size;have HCP:=hid (fun W (h:Below w.heap.size w W)=>s_copied (l[k]?.getD default) _ W ⟨_,_,rfl,he.below h,hd.below h⟩);clear he hd;generalize l[k]?.getD default=x at*
   go_wp2_with fail;refine(HCP.out _ ?hbc).mono ?_;case hbc=>exact up HB.out (by go_grown)
   rintro e w1 ⟨ev,dv,rfl,he1,hd1,fe1,fd1,hB1⟩;have HBo:Hid (Below wo.heap.size wo w1):=up (by go_grown) hB1;have HE1:=hid (he1.fresh (B:=w.heap.size) (u:=u3) fe1 (by simp;omega) (fun g e=>by have:=(HU.out g e).2;simp;omega));have HD1:=hid (hd1.fresh (B:=w.heap.size) (u:=u3) fd1 (by simp;omega) (fun g e=>by have:=(HU.out g e).2;simp;omega));obtain⟨ea1,ec1,rfl,_⟩:=he1;obtain⟨da1,dc1,rfl,_⟩:=hd1;have hs1:wo.heap.size≤w1.heap.size:=HBo.out.size;clear fe1 fd1 hB1 c0 c1 c2 c3 c4 hb HCP;have HONE:Hid (∀ u∈[Value.string (str x.name),.string (str x.on),.int .i64 x.g.n,.slice ea1 x.g.es.length ec1,.slice da1 x.d.length dc1],u.oneCell'=true):=by
    intro u hu;simp only[List.mem_cons,List.not_mem_nil,or_false]at hu;rcases hu with rfl|rfl|rfl|rfl|rfl<;>rfl
   dsimp only;go_wp2_with (at_builtin;refine wpList_append_own_at _ rfl _ _ 22 rfl w.heap.size 67 i0 _ 5 88 und_obs hi hz0 hz1 hz2 rfl (by decide) _ k _ rfl (owns_below HO.out (HBo.out.alloc hs1 _)) ⟨w1.heap.size,0,none⟩ 1 1 [.string (str x.name),.string (str x.on),.int .i64 x.g.n,.slice ea1 x.g.es.length ec1,.slice da1 x.d.length dc1] rfl rfl (five_news w1 _ _ _ _ _ _) HONE.out ?q2 ?q3 ?q4 ?_);case q2=>unfold maxLen;omega
   case q3=>omega
   case q4=>simp;omega
   intro v' w2 hown2 hgr2 _ hat2;have HO2:=hid hown2;have HB2:Hid (Below w.heap.size w w2):=((HB.out.trans (HBo.out.mono hs)).alloc (by omega) _).grown hgr2 (by simp;omega) (fun q hq=>(HU.out q hq).1);have ha:Sub w1 (w1.alloc (.cells #[.string (str x.name),.string (str x.on),.int .i64 x.g.n,.slice ea1 x.g.es.length ec1,.slice da1 x.d.length dc1] 67)):=sub_below ((Below.refl _ w1).alloc (Nat.le_refl _) _);have hsub:Sub (cutW w.heap.size (msk u3 w1)) (cutW w.heap.size (msk v' w2)):=((ha.msk u3).trans (sub_app hgr2 (by rw[World.size_alloc];exact hat2))).cut _;have hsub0:Sub (cutW w.heap.size (msk u3 wo)) (cutW w.heap.size (msk u3 w1)):=((sub_below HBo.out).msk u3).cut _
   have HCN:Hid (ObC (cutW w.heap.size (msk v' w2)) (zs++[[.string (str x.name),.string (str x.on),.int .i64 x.g.n,.slice ea1 x.g.es.length ec1,.slice da1 x.d.length dc1]]) (l.take (k+1))):=by
    show ObC _ _ _;rw[HST.out];exact ObC.app (HC.out.sub (hsub0.trans hsub)) (ObC.cons ⟨_,_,rfl,HE1.out.sub hsub,HD1.out.sub hsub⟩ (ObC.nil _))
   clear hown2 hgr2 hat2 ha hsub hsub0;go_wp2_with fail;go_roundw;case rel=>exact⟨k+1,_,by omega,by go_num,hid (by rw[List.flatten_append];simpa using HO2.out),HCN,HB2⟩
   case measure=>simp[intOf];omega
  ·obtain rfl:k=l.length:=by omega
   have hlt':¬(l.length:Int)<(l.length:Int):=by omega
   rw[List.take_length]at HC;obtain⟨av,cv,hav,h1,h2,hca⟩:=owns_at HO.out;subst hav;have HRES:=hid (obs_mk (m:=cutW w.heap.size wo) (HC.out.sub ((sub_unmsk _ _).cut _)) (hca.cut fun n c g e=>(HO.out.lt g (by cases av<;>exact e)).1) h1 h2 hln);clear hca;go_wp2_with fail;go_ret;exact⟨_,rfl,HRES.out,HB.out⟩
theorem und_lsS:Tryz.prog.underlying 23=some (.slice 22):=by kernel_rfl
theorem info_lS:(Tryz.prog.info? 22).map (fun i=>(i.zero,i.size,i.bytes))=some (some (.slice none 0 0),1,24):=by kernel_rfl
def RetCopyL (l:List (List Ob))(w:World)(e:Ending)(w':World):Prop:=∃v,e= .returned v∧LsoR (cutW w.heap.size w') v l∧Below w.heap.size w w'
theorem ObsR.fresh {w w1:World}{v u:Value}{l:List Ob}{B:Nat}(h:ObsR (cutW w.heap.size w1) v l)(hB:B≤w.heap.size)(hu:∀g,u.ownBlock=some g→g<w.heap.size):ObsR (cutW B (Go.Proofs.YtclgllmipcbagaaGreatDoor.msk u w1)) v l:=
 h.sub ⟨by rw[cut_size,cut_size,msk_size];exact Nat.le_refl _,fun a x hx=>by
  obtain⟨h1,h2⟩:=cut_cell hx;rw[cut_cell' (by omega),msk_cell']
  ·exact h1
  ·intro e
   have:=hu _ e;omega⟩
theorem s_lists (l:List (List Ob))(v:Value)(fb:Nat)(w:World)(hl:LsoR w v l)(hf:w.cell? ⟨fb,0,none⟩=some (.func (.func 91) #[] #[]))(hfb:fb<w.heap.size):
 Calls Tryz.prog 92 #[v,.pointer (some ⟨fb,0,none⟩)] w (RetCopyL l w):=by
 obtain⟨a,cap,rfl,hcap,hcm,hln⟩:=hl.form;have HL:=hid hl;have HF:=hid hf;have HFB:=hid hfb;clear hl hf hfb;obtain⟨i0,hi,hz0,hz1,hz2⟩:=info_parts info_lS;go_enter Tryz.func92,Tryz.ntmps92;go_wp2_with fail;go_loopw [4,9] (fun u i wr=>∃k:Nat,∃vals:List Value,k≤l.length∧i= .int .i64 k∧Hid (wr.ownsRow w.heap.size 22 1 u k vals)∧Hid (∀ j,j<k→ObsR (cutW w.heap.size (msk u wr)) (vals[j]?.getD undef) (l[j]?.getD []))∧Hid (Below w.heap.size w wr)) (fun _ i _=>l.length-(intOf i).toNat);case atStart=>exact⟨0,[],Nat.zero_le _,rfl,World.ownsRow_nil _ _ _ _,fun j hj=>by omega,Below.refl _ _⟩
 case round=>
  obtain⟨k,vals,hk,rfl,HO,HC,HB⟩:=hrel;obtain⟨wo,rfl⟩:∃wo:World,wo=wr:=⟨_,rfl⟩;have hk0:(0:Int)≤(k:Int):=by omega
  by_cases hlt:k<l.length
  ·have hlt':(k:Int)<(l.length:Int):=by omega
   have wk:IntKind.i64.wrap ((k:Int)+1)=(k:Int)+1:=IntWalk.i64_in _ (by omega);obtain⟨b,off,xa,xc,rfl,hb,c0,hx⟩:=HL.out.atB HB.out k hlt;have HU:Hid (∀ g,u4.ownBlock=some g→w.heap.size≤g∧g<wo.heap.size):=fun g e=>HO.out.lt g e;have hs:=HB.out.size;have hfc:wo.cell? ⟨fb,0,none⟩=some (.func (.func 91) #[] #[]):=(HB.out.cell (p:=⟨fb,0,none⟩) HFB.out).trans HF.out;have hfl:fb<wo.heap.size:=Nat.lt_of_lt_of_le HFB.out hs;have HCP:=hid (fun W (h:Below w.heap.size w W)=>s_list (l[k]?.getD []) _ W (hx.below h));have hlk:vals.length=k:=by have:=HO.out.1;omega
   have HLK:=hid hlk;clear hx hlk;generalize hxe:l[k]?.getD []=x at*
   have HXE:=hid hxe;clear hxe;go_wp2_with fail;refine(HCP.out _ HB.out).mono ?_;rintro e w1 ⟨xv,rfl,hx1,hB1⟩;have HBo:=hid hB1;have HX1:=hid (hx1.fresh (B:=w.heap.size) (u:=u4) hs (fun g e=>(HU.out g e).2));obtain⟨xa1,xc1,hxv,_⟩:=hx1.form;subst hxv;have hs1:wo.heap.size≤w1.heap.size:=HBo.out.size;clear hx1 hB1 c0 hb hfc hfl HCP;dsimp only;go_wp2_with (at_builtin;refine wpList_append_own_at _ rfl _ _ 23 rfl w.heap.size 22 i0 _ 1 24 und_lsS hi hz0 hz1 hz2 rfl (by decide) _ k _ rfl (owns_below HO.out (HBo.out.alloc hs1 _)) ⟨w1.heap.size,0,none⟩ 1 1 [.slice xa1 x.length xc1] rfl rfl (cell_one_new _ _ _) (by simp[Value.oneCell']) ?q2 ?q3 ?q4 ?_)
   case q2=>unfold maxLen;omega
   case q3=>omega
   case q4=>simp;omega
   intro v' w2 hown2 hgr2 _ hat2;have HO2:=hid hown2;have HB2:Hid (Below w.heap.size w w2):=((HB.out.trans (HBo.out.mono hs)).alloc (by omega) _).grown hgr2 (by simp;omega) (fun q hq=>(HU.out q hq).1);have ha:Sub w1 (w1.alloc (.cells #[.slice xa1 x.length xc1] 22)):=sub_below ((Below.refl _ w1).alloc (Nat.le_refl _) _);have hsub:Sub (cutW w.heap.size (msk u4 w1)) (cutW w.heap.size (msk v' w2)):=((ha.msk u4).trans (sub_app hgr2 (by rw[World.size_alloc];exact hat2))).cut _;have hsub0:Sub (cutW w.heap.size (msk u4 wo)) (cutW w.heap.size (msk u4 w1)):=((sub_below HBo.out).msk u4).cut _;have HCN:Hid (∀ j,j<k+1→ObsR (cutW w.heap.size (msk v' w2)) ((vals++[.slice xa1 x.length xc1])[j]?.getD undef) (l[j]?.getD [])):=by
    intro j hj;have hl:=HLK.out;by_cases e:j<k
    ·rw[List.getElem?_append_left (by omega)]
     exact(HC.out j e).sub (hsub0.trans hsub)
    ·obtain rfl:j=k:=by omega
     rw[List.getElem?_append_right (by omega),hl,Nat.sub_self,HXE.out];exact HX1.out.sub hsub
   clear hown2 hgr2 hat2 ha hsub hsub0;go_wp2_with fail;go_roundw;case rel=>exact⟨k+1,_,by omega,by go_num,HO2,HCN,HB2⟩
   case measure=>simp[intOf];omega
  ·obtain rfl:k=l.length:=by omega
   have hlt':¬(l.length:Int)<(l.length:Int):=by omega
   obtain⟨av,cv,hav,h1,h2,hca⟩:=owns_at HO.out;subst hav;have HRES:Hid (LsoR (cutW w.heap.size wo) (.slice av l.length cv) l):=⟨av,cv,vals,rfl,h1,h2,hln,hca.cut fun n c g e=>(HO.out.lt g (by cases av<;>exact e)).1,by have:=HO.out.1;omega,fun j hj=>(HC.out j hj).sub ((sub_unmsk _ _).cut _)⟩;clear hca;go_wp2_with fail;go_ret;exact⟨_,rfl,HRES.out,HB.out⟩
theorem load_ses {w:World}{b:Nat}{v0 v1 v2:Value}(h:Blk w b #[v0,v1,v2] 25):(loadVar 25 ⟨b,0,none⟩).run Tryz.prog w= .ok (.agg #[v0,v1,v2]) w:=by
 have hlt:=h.lt;have c0:=h.cell 0;have c1:=h.cell 1;have c2:=h.cell 2;simp only[xG,xH,xI]at c0 c1 c2;go_simp
def RetShared (s:Ses)(w:World)(e:Ending)(w':World):Prop:=∃oa oc pa pc fa fc,e= .returned (.agg #[.slice oa s.obs.length oc,.slice pa s.past.length pc,.slice fa s.fut.length fc])∧ObsR w' (.slice oa s.obs.length oc) s.obs∧LsoR w' (.slice pa s.past.length pc) s.past∧LsoR w' (.slice fa s.fut.length fc) s.fut∧Below w.heap.size w w'
theorem s_shared (s:Ses)(v:Value)(w:World)(hs:SesR w v s):
 Calls Tryz.prog 53 #[v] w (RetShared s w):=by
 obtain⟨ov,pv,fv,rfl,ho,hp,hf⟩:=hs;obtain⟨oa,oc,rfl,_⟩:=ho.form;obtain⟨pa,pc,rfl,_⟩:=hp.form;obtain⟨fa,fc,rfl,_⟩:=hf.form;have hB:Below w.heap.size w (((w.alloc (.cells #[.slice oa s.obs.length oc,.slice pa s.past.length pc,.slice fa s.fut.length fc] 25)).alloc (.cells #[.slice none 0 0,.slice none 0 0,.slice none 0 0] 25)).alloc (.cells #[.func (.func 91) #[] #[]] 151)):=by go_grown
 have HX:=hid (((Blk.new w #[.slice oa s.obs.length oc,.slice pa s.past.length pc,.slice fa s.fut.length fc] 25).alloc (.cells #[.slice none 0 0,.slice none 0 0,.slice none 0 0] 25)).alloc (.cells #[.func (.func 91) #[] #[]] 151));have hY:=(Blk.new (w.alloc (.cells #[.slice oa s.obs.length oc,.slice pa s.past.length pc,.slice fa s.fut.length fc] 25)) #[.slice none 0 0,.slice none 0 0,.slice none 0 0] 25).alloc (.cells #[.func (.func 91) #[] #[]] 151);rw[World.size_alloc]at hY;have hZ:=Blk.new ((w.alloc (.cells #[.slice oa s.obs.length oc,.slice pa s.past.length pc,.slice fa s.fut.length fc] 25)).alloc (.cells #[.slice none 0 0,.slice none 0 0,.slice none 0 0] 25)) #[.func (.func 91) #[] #[]] 151
 rw[World.size_alloc,World.size_alloc]at hZ;have HY:=hid hY;have HZ:=hid hZ;have HSZ:Hid ((((w.alloc (.cells #[.slice oa s.obs.length oc,.slice pa s.past.length pc,.slice fa s.fut.length fc] 25)).alloc (.cells #[.slice none 0 0,.slice none 0 0,.slice none 0 0] 25)).alloc (.cells #[.func (.func 91) #[] #[]] 151)).heap.size=w.heap.size+3):=by show _=_;simp
 have HB0:=hid hB;have HO:=hid ho;have HP:=hid hp;have HF:=hid hf;clear hB hY hZ ho hp hf;go_enter Tryz.func53,Tryz.ntmps53;go_upto_region 3 with fail;generalize (((w.alloc (.cells #[.slice oa s.obs.length oc,.slice pa s.past.length pc,.slice fa s.fut.length fc] 25)).alloc (.cells #[.slice none 0 0,.slice none 0 0,.slice none 0 0] 25)).alloc (.cells #[.func (.func 91) #[] #[]] 151))=W0 at*
 have lx:=HX.out.lt;have lz:=HZ.out.lt;have x0:=HX.out.cell 0;have x1:=HX.out.cell 1;have x2:=HX.out.cell 2;have z0:=HZ.out.cell 0;simp only[xG,xH,xI]at x0 x1 x2 z0;have HQ3:Hid (∀ w',Below W0.heap.size W0 w'→w'.cell? ⟨w.heap.size+1+1,0,none⟩=some (.func (.func 91) #[] #[])):=fun w' h=>(h.cell (p:=⟨w.heap.size+1+1,0,none⟩) lz).trans z0;let S:World→Prop:=fun w'=>Below W0.heap.size W0 w'
 (refine wp_region_text 12 [0,1,2,4,5,6,8,9,10,3,7,11] S (by kernel_rfl) (by kernel_rfl) (by intro _ _ d _ _ h;cases d<;>exact h) ?hS ?_;rotate_left;simp only[xA,xB,xC,xD,xE,xF]);case hS=>exact Below.drew (Below.refl _ _)
 (repeat ((refine' wpSeq_take rfl _ (by rfl) ?_ ?_;rotate_left;focus(intro w' hS;(try dsimp only at hS);have q0:w'.cell? ⟨w.heap.size,0,none⟩=some (.slice oa s.obs.length oc):=(Below.cell hS (p:=⟨w.heap.size,0,none⟩) lx).trans x0;have q1:w'.cell? ⟨w.heap.size,1,none⟩=some (.slice pa s.past.length pc):=(Below.cell hS (p:=⟨w.heap.size,1,none⟩) lx).trans x1;have q2:w'.cell? ⟨w.heap.size,2,none⟩=some (.slice fa s.fut.length fc):=(Below.cell hS (p:=⟨w.heap.size,2,none⟩) lx).trans x2;have q3:=HQ3.out w' hS;go_simp;(first|done|with_reducible rfl));(try go_frame));(try go_frame)));have hd0:Below W0.heap.size W0 W0.drew:=Below.drew (Below.refl _ _)
 (refine wpSeq_call rfl (by rfl) (fun K hK=> ?_);go_simp;refine(s_list s.obs _ _ (HO.out.below (up HB0.out hd0))).mono ?_;rintro e w1 ⟨v1,rfl,h1,hB1⟩;refine hK _ _ (up hd0 hB1) ?_;clear hK K;(try go_frame));have hd1:Below W0.heap.size W0 w1:=up hd0 hB1;(refine wpSeq_call rfl (by rfl) (fun K hK=> ?_);go_simp;refine(s_lists s.past _ (w.heap.size+1+1) _ (HP.out.below (up HB0.out hd1)) ((hd1.cell (p:=⟨w.heap.size+1+1,0,none⟩) lz).trans z0) (Nat.lt_of_lt_of_le lz hd1.size)).mono ?_;rintro e w2 ⟨v2,rfl,h2,hB2⟩;refine hK _ _ (up hd1 hB2) ?_;clear hK K;(try go_frame));have hd2:Below W0.heap.size W0 w2:=up hd1 hB2
 (refine wpSeq_call rfl (by rfl) (fun K hK=> ?_);go_simp;refine(s_lists s.fut _ (w.heap.size+1+1) _ (HF.out.below (up HB0.out hd2)) ((hd2.cell (p:=⟨w.heap.size+1+1,0,none⟩) lz).trans z0) (Nat.lt_of_lt_of_le lz hd2.size)).mono ?_;rintro e w3 ⟨v3,rfl,h3,hB3⟩;refine hK _ _ (up hd2 hB3) ?_;clear hK K;(try go_frame));refine wpSeq_nil ?_;clear S;have hd3:Below W0.heap.size W0 w3:=up hd2 hB3;have hz0:w.heap.size+1<W0.heap.size:=by have:=HSZ.out;omega
 have hz1:W0.heap.size≤w1.heap.size:=hd1.size;have hz2:W0.heap.size≤w2.heap.size:=hd2.size;have H1:=hid ((h1.sub ((sub_below hB2).cut _)).sub ((sub_below hB3).cut _) |>.sub (sub_cut_le (B':=W0.heap.size) w3 (Nat.le_refl _)));have H2:=hid ((h2.sub ((sub_below hB3).cut _)).sub (sub_cut_le (B':=W0.heap.size) w3 hz1));have H3:=hid (h3.sub (sub_cut_le (B':=W0.heap.size) w3 hz2));obtain⟨a1,c1,e1,_⟩:=h1.form;obtain⟨a2,c2,e2,_⟩:=h2.form;obtain⟨a3,c3,e3,_⟩:=h3.form;subst e1 e2 e3;have HY3:=hid (HY.out.below hd3);have HB3:=hid (up HB0.out hd3);have HZZ:=hid hz0;clear h1 h2 h3 hB1 hB2 hB3 hd0 hd1 hd2 hd3 hz0 hz1 hz2 x0 x1 x2 z0 lx lz HX HY HZ
 have ly:=HY3.out.lt;have y0:=HY3.out.cell 0;have y1:=HY3.out.cell 1;have y2:=HY3.out.cell 2;have f0:=HY3.out.frozen 0;have f1:=HY3.out.frozen 1;have f2:=HY3.out.frozen 2;simp only[xG,xH,xI]at y0 y1 y2;go_wp2_with fail
 have hV:∀y0 y1 y2,Sub (cutW W0.heap.size w3) (((w3.setCell ⟨w.heap.size+1,0,none⟩ y0).setCell ⟨w.heap.size+1,1,none⟩ y1).setCell ⟨w.heap.size+1,2,none⟩ y2):=fun y0 y1 y2=>
  (sub_cut_mask w3 HZZ.out).trans ((sub_grown (grown_put3 w3 (w.heap.size+1) y0 y1 y2)).trans (sub_unmask _ _))
 exact bodyPost_ret (results_cellA rfl rfl (load_ses (blk3 HY3.out _ _ _))) rfl ⟨_,_,_,_,_,_,rfl,H1.out.sub (hV _ _ _),H2.out.sub (hV _ _ _),H3.out.sub (hV _ _ _),below3 HB3.out (Nat.le_succ _) _ _ _⟩
theorem c_CloneL (a:Option Addr)(n cap:Nat)(vs:List Value)(w:World)(hn:vs.length=n)(hb:n*24≤140737488355328)(hc:CellsAt w a vs)(h1:∀u∈vs,u.oneCell'=true):
 Calls Tryz.prog 152 #[.slice a n cap] w fun e w'=>∃v',e= .returned v'∧w'.ownsRow w.heap.size 22 1 v' n vs∧Below w.heap.size w w':=by
 have qT:∀(w:World) (a:Option Addr) (n c n' c':Nat),(binOp .eql 23 (.slice a n c) (.slice none n' c')).run Tryz.prog w= .ok (.bool a.isNone) w:=fun w a n c n' c'=>Lib.run_eql_slice_nil w 23 22 a n c n' c' und_lsS;cases a with
 |none=>
  have h0:vs=[]:=by
   rcases hc with h|⟨b,off,h,_⟩
   ·exact h
   ·simp at h
  subst h0
  simp at hn
  subst hn
  clear hc
  go_enter Tryz.func152,Tryz.ntmps152
  go_wp2_with fail
  go_ret
  exact⟨_,rfl,World.ownsRow_nil _ _ _ _,Below.refl _ _⟩
 |some a=>
  have HC:=hid hc
  have HN:=hid hn
  have H1:=hid h1
  clear hc hn h1
  obtain⟨i,hi,hz,hsz,hby⟩:=info_parts info_lS
  go_enter Tryz.func152,Tryz.ntmps152
  go_wp2_with (at_builtin;refine wpList_append_own _ rfl _ _ 23 rfl w.heap.size 22 i _ 1 24 und_lsS hi hz hsz hby rfl (by decide) _ _ _ rfl (World.ownsRow_made w #[] 0 (Nat.le_refl _) (Nat.zero_le _) (by simp)) a n cap vs rfl ?qc1 ?qc2 H1.out ?qc4 ?qc5 ?qc6 ?_)
  case qc1=>have:=HN.out;omega
  case qc2=>exact fun j u hj=>(HC.out.below ((Below.refl _ _).alloc (Nat.le_refl _) _)).newsS j u hj
  case qc4=>unfold maxLen;omega
  case qc5=>omega
  case qc6=>simp
  intro v' w1 hown hgrow hnil
  go_wp2_with fail
  go_ret
  refine⟨v',rfl,by simpa using hown,?_⟩
  exact((Below.refl _ w).alloc (Nat.le_refl _) _).grown hgrow (by simp) (by intro k hk;simp[Value.ownBlock]at hk;omega)
def RetLater (n:Nat)(vs:List Value)(w:World)(e:Ending)(w':World):Prop:=∃a' cap',e= .returned (.slice a' (n+1-(n+1-64)) cap')∧CellsAt w' a' (vs.drop (n+1-64))∧n+1-(n+1-64)≤cap'∧cap'≤9223372036854775807∧(∀ k,(Value.slice a' 0 0).ownBlock=some k→w.heap.size≤k)∧Below w.heap.size w w'
theorem s_later (a:Option Addr)(n cap:Nat)(vs:List Value)(xa:Option Addr)(xn xc:Nat)(w:World)(hn:vs.length=n)(hb:n≤64)(hc:CellsAt w a vs)(h1:∀u∈vs,u.oneCell'=true):
 Calls Tryz.prog 151 #[.slice a n cap,.slice xa xn xc] w (RetLater n (vs++[Value.slice xa xn xc]) w):=by
 have HCL:=hid (c_CloneL a n cap vs w hn (by omega) hc h1);clear hc h1 hn;obtain⟨i0,hi,hz0,hz1,hz2⟩:=info_parts info_lS;go_enter Tryz.func151,Tryz.ntmps151;go_wp2_with fail;refine HCL.out.mono ?_;rintro e w1 ⟨v1,rfl,hown1,hB1⟩;have HO1:=hid hown1;have HB1:=hid hB1;obtain⟨ga,gc,hv1,_⟩:=owns_at hown1;subst hv1;have hs1:=hB1.size;clear hown1 hB1 HCL;dsimp only;go_upto_region 2 with (at_builtin;refine wpList_append_own _ rfl _ _ 23 rfl w.heap.size 22 i0 _ 1 24 und_lsS hi hz0 hz1 hz2 rfl (by decide) _ n _ rfl (HO1.out.alloc _) ⟨w1.heap.size,0,none⟩ 1 1 [.slice xa xn xc] rfl rfl (cell_one_new _ _ _) (by simp[Value.oneCell']) ?q2 ?q3 ?q4 ?_;(case q2=>unfold maxLen;omega);(case q3=>omega);(case q4=>simp;omega);intro v' w2 hown2 hgr2 _;have HO2:=hid hown2;have HB2:Hid (Below w.heap.size w w2):=(HB1.out.alloc hs1 _).grown hgr2 (by simp;omega) (fun q hq=>(HO1.out.lt q hq).1);clear hown2 hgr2)
 obtain⟨g,gcap,hv2,hge,hcm⟩:=owns_some HO2.out (by omega);subst hv2;obtain⟨_,_,e5,hcap1,hcap2,hca⟩:=owns_at HO2.out;injection e5 with e51 e52 e53
 subst e51 e53;have HCA:=hid hca;have HG:Hid (w.heap.size≤g):=(HO2.out.lt g rfl).1;clear hca;have HE:Hid ((max 0 ((n:Int)+1-64)).toNat=n+1-64):=by show _=_;omega
 have HL:Hid ((vs++[Value.slice xa xn xc]).length=n+1):=by have:=HO2.out.1;show _=_;omega
 go_wp2_with fail;rw[HE.out];go_ret;refine⟨some ⟨g,n+1-64,none⟩,gcap-(n+1-64),rfl,?_,by omega,by omega,fun k hk=> ?_,HB2.out⟩
 ·rcases HCA.out with h|⟨b',off,e,hl,hc⟩
  ·have:=HL.out;rw[h]at this;simp at this
  ·injection e with e
   injection e with e1 e2
   subst e1 e2;refine .inr ⟨g,n+1-64,rfl,hl,fun i hi=> ?_⟩;have hi':i<n+1-(n+1-64):=by rw[List.length_drop,HL.out]at hi;exact hi
   rw[List.getElem?_drop];have:=hc (n+1-64+i) (by rw[HL.out];omega);rw[← this];congr 2;omega
 ·have hk':some g=some k:=hk
  injection hk' with hk'
  rw[← hk'];exact HG.out
section
variable {P : Program} {ops : Array Oper} {md : Region.Mode} {Q : Exit → Act → World → Prop} {S : World → Prop}
def waitL (md:Region.Mode)(ops:Array Oper)(f n:Nat)(l0:Array Bool):Bool:=
 (List.range ops.size).all fun t=>decide (t<n)||(List.range n).all fun i=>l0.getD i false||ancB md ops f t i
theorem waitL_spec {f n:Nat}{l0 listed:Array Bool}(h:waitL md ops f n l0=true)(inv:HeadInv md ops n listed)(hsub:∀i,l0.getD i false=true→listed.getD i false=true){i t:Nat}(hi:i<n)(hun:listed.getD i true=false)(ht:n≤t):t∉Region.ready md ops listed:=by
 intro hr;obtain⟨_,ot,hot,_⟩:=mem_ready.1 hr;have htlt:t<ops.size:=(Array.getElem?_eq_some_iff.1 hot).1;have h1:=List.all_eq_true.1 h t (List.mem_range.2 htlt);simp only[Bool.or_eq_true,decide_eq_true_eq]at h1;rcases h1 with h1|h1
 ·omega
 ·have h2:=List.all_eq_true.1 h1 i (List.mem_range.2 hi)
  simp only[Bool.or_eq_true]at h2;rcases h2 with h2|h2
  ·have:=hsub i h2
   rw[getD_both hun]at this;cases this
  ·have h3:=ancB_spec inv f t i h2 (.inr hr)
   rw[getD_both hun]at h3;cases h3
theorem wpAnyU_first {f0 n i:Nat}{l0:Array Bool}{oi:Oper}{v:Value}{L:Array Bool→Act→World→Prop}(hi:ops[i]? =some oi)(hsel:∀(j:Nat) (o:Oper) cs b,ops[j]? =some o→o.op≠ .select cs b)
 (hs:waitL md ops f0 n l0=true) (hin:i<n)
 (hQ:∀c a w,Q (.panic c) (a.put oi.dst v) w→Q (.panic c) a w)
 (hdone:∀listed a w,L listed a w→∀j∈Region.ready md ops listed,n≤j):
 ∀(f:Nat) (listed:Array Bool) (a:Act) (w:World),HeadInv md ops n listed→(∀ i,l0.getD i false=true→listed.getD i false=true)→
  (∀ j oj,ops[j]? =some oj→j≠i→listed.getD j true=false→(∀ e∈oj.after,Region.binds md e=true→e.on≠i)→oi.apart ops oj=true)→
  i∈Region.ready md ops listed→YieldsIf P ops S oi v a→S w→
  wpAnyW P md ops Q S n L f (listed.setIfInBounds i true) (a.put oi.dst v) w→wpAnyW P md ops Q S n L (f+1) listed a w:=by
 intro f;induction f with
 |zero=>
  intro listed a w inv hsub _ hr hy hS H
  refine⟨fun h=>(by rw[h]at hr;cases hr),fun j hj=> ?_⟩
  by_cases hji:j=i
  ·subst hji;exact⟨hin,hy.wpOp hi hS ⟨hS,H⟩⟩
  ·exfalso
   have h1:=hdone _ _ _ H j (ready_mono hj hji);exact waitL_spec hs inv hsub hin (mem_ready.1 hr).1 h1 hj
 |succ f ih=>
  intro listed a w inv hsub hfree hr hy hS H
  refine⟨fun h=>(by rw[h]at hr;cases hr),fun j hj=> ?_⟩
  by_cases hji:j=i
  ·subst hji;exact⟨hin,hy.wpOp hi hS ⟨hS,H⟩⟩
  ·obtain⟨hjn,h1⟩:=H.2 j (ready_mono hj hji)
   obtain⟨hjun,oj,hoj,hall⟩:=mem_ready.1 hj;have hnot:∀e∈oj.after,Region.binds md e=true→e.on≠i:=fun e he hb heq=>by
    have h1:=hall e he hb;have h0:=(mem_ready.1 hr).1;rw[heq,getD_both h0]at h1;cases h1
   have h2:=wpOp_putIf hoj (hfree j oj hoj hji hjun hnot) (fun cs b=>hsel i oi cs b hi) (fun cs b=>hsel j oj cs b hoj) hQ hy h1
   have hfree':∀k ok,ops[k]? =some ok→k≠i→(listed.setIfInBounds j true).getD k true=false→
    (∀ e∈ok.after,Region.binds md e=true→e.on≠i)→oi.apart ops ok=true:=fun k ok hk hki hun hno=>by
    refine hfree k ok hk hki ?_ hno;by_cases hjk:j=k
    ·subst hjk;exact hjun
    ·rw[getD_set_ne true hjk]at hun;exact hun
   refine⟨hjn,wpOp_mono (fun a' w' h3=>⟨h3.2.1,ih (listed.setIfInBounds j true) a' w' (inv.set hj hjn) (fun q hq=>getD_set_true (hsub q hq)) hfree' (ready_mono hr (Ne.symm hji)) h3.1 h3.2.1 ?_⟩) h2⟩;rw[Array.setIfInBounds_comm _ _ hji];exact h3.2.2
theorem wpAnyU_lex {f0 n:Nat}{l0:Array Bool}{F:Array Bool→Bool}{R:Act→World→Prop}(hsel:Region.noSelect ops=true)(hs:waitL md ops f0 n l0=true)(hn:n≤ops.size)
 (hQ:∀c a d v w,Q (.panic c) (Act.put a d v) w→Q (.panic c) a w):
 ∀(ks:List Nat) (listed:Array Bool) (a:Act) (w:World),HeadInv md ops n listed→(∀ i,l0.getD i false=true→listed.getD i false=true)→
 lexHeadG md ops F n ks listed=true→S w→wpSeq P ops Q S R (ks.map fun k=>ops.getD k default) a w→
 wpAnyW P md ops Q S n (fun listed' a' w'=>(Region.ready md ops listed').all (fun j=>decide (n≤j))=true∧HeadInv md ops n listed'∧F listed'=true∧S w'∧R a' w') ks.length listed a w
 |[],listed,a,w,inv,_,hB,hS,h=>by
  simp only[lexHeadG,Bool.and_eq_true]at hB;exact⟨hB.1,inv,hB.2,hS,h⟩
 |k::ks,listed,a,w,inv,hsub,hB,hS,h=>by
  simp only[lexHeadG,Bool.and_eq_true,decide_eq_true_eq]at hB;obtain⟨⟨⟨hkn,hr⟩,hf⟩,hB'⟩:=hB;have hr':k∈Region.ready md ops listed:=by simpa using hr
  obtain⟨o,h0⟩:∃o,ops[k]? =some o:=⟨ops[k],by simp[show k<ops.size by omega]⟩;have he:ops.getD k default=o:=by simp[Array.getD_eq_getD_getElem?,h0]
  simp only[h0]at hf;rw[List.map_cons,he]at h;have ih:=fun a' w' (hS':S w') (h':wpSeq P ops Q S R (ks.map fun k=>ops.getD k default) a' w')=>wpAnyU_lex (F:=F) hsel hs hn hQ ks (listed.setIfInBounds k true) a' w' (inv.set hr' hkn) (fun q hq=>getD_set_true (hsub q hq)) hB' hS' h';by_cases hw:worldly o=true
  ·rw[if_pos hw]at hf
   have hone:Region.ready md ops listed=[k]:=by simpa using hf
   unfold wpSeq at h;rw[if_pos hw]at h;refine⟨fun h1=>(by rw[hone]at h1;cases h1),fun i hi=> ?_⟩;rw[hone]at hi;obtain rfl:i=k:=by simpa using hi
   refine⟨hkn,?_⟩;unfold wpOp;simp only[h0];rcases h with ⟨hg,h⟩|⟨hg,h⟩
   ·rw[if_pos hg]
    have hop:wpOp P ops Q i (fun a' w'=>S w'∧wpSeq P ops Q S R (ks.map fun k=>ops.getD k default) a' w') a w:=by unfold wpOp;simp only[h0];rw[if_pos hg];exact .inl h
    have:=wpOp_mono (fun a' w' h'=>(⟨h'.1,ih a' w' h'.1 h'.2⟩:S w'∧_)) hop;unfold wpOp at this;simp only[h0]at this;rw[if_pos hg]at this;exact this
   ·rw[if_neg (by rw[hg];simp)]
    exact⟨hS,ih _ _ hS h⟩
  ·rw[if_neg hw]at hf
   unfold wpSeq at h;rw[if_neg hw]at h;obtain⟨v,hy,h⟩:=h;exact wpAnyU_first h0 (Region.noSelect_spec hsel) hs hkn (fun c a w=>hQ c a o.dst v w) (fun listed' a' w' hL j hj=>by simpa using List.all_eq_true.1 hL.1 j hj) ks.length listed a w inv hsub (Region.free_spec h0 hf) hr' hy hS (ih _ _ hS h)
def preB (md:Region.Mode)(ops:Array Oper)(n:Nat)(F:Array Bool→Bool):List Nat→Array Bool→Bool
 |[],listed=>F listed
 |k::ks,listed=>decide (k<n)&&(Region.ready md ops listed).contains k&&(match ops[k]? with
   |some o=> !worldly o&&Region.free md ops listed k
   |none=>false)&&preB md ops n F ks (listed.setIfInBounds k true)
theorem wpAny_pre {n g:Nat}{F:Array Bool→Bool}{R:Act→World→Prop}(hsel:Region.noSelect ops=true)
 (hQ:∀c a d v w,Q (.panic c) (Act.put a d v) w→Q (.panic c) a w)
 (hR:∀listed a w,HeadInv md ops n listed→F listed=true→R a w→wpAny P md ops Q g listed a w):
 ∀(ks:List Nat) (listed:Array Bool) (a:Act) (w:World),HeadInv md ops n listed→preB md ops n F ks listed=true→wpSeq P ops Q (fun _=>True) R (ks.map fun k=>ops.getD k default) a w→
 wpAny P md ops Q (g+ks.length) listed a w
 |[],listed,a,w,inv,hB,h=>hR listed a w inv hB h
 |k::ks,listed,a,w,inv,hB,h=>by
  simp only[preB,Bool.and_eq_true,decide_eq_true_eq]at hB;obtain⟨⟨⟨hkn,hr⟩,hf⟩,hB'⟩:=hB;have hr':k∈Region.ready md ops listed:=by simpa using hr
  obtain⟨_,o,h0,_⟩:=mem_ready.1 hr';have he:ops.getD k default=o:=by simp[Array.getD_eq_getD_getElem?,h0]
  simp only[h0,Bool.and_eq_true,Bool.not_eq_true']at hf;rw[List.map_cons,he]at h;unfold wpSeq at h;rw[if_neg (by rw[hf.1];simp)]at h;obtain⟨v,hy,h⟩:=h;have hy':Yields P ops o v a:=hy.imp (fun ⟨h1,h2⟩=>⟨h1,fun w=>h2 w trivial⟩) id;rw[List.length_cons,←Nat.add_assoc];exact wpAny_first h0 (Region.noSelect_spec hsel) (fun c a w=>hQ c a o.dst v w) (g+ks.length) listed a w (Region.free_spec h0 hf.2) hr' hy' (wpAny_pre hsel hQ hR ks _ _ _ (inv.set hr' hkn) hB' h)
def textB3 (ops:Array Oper)(f0 n:Nat)(ks0 ks:List Nat):Bool:=
 Region.noSelect ops&&decide (n≤ops.size)&&decide (ks0.length+ks.length=n)&&
  preB .any ops n (fun l0=>waitL .any ops f0 n l0&&lexHeadG .any ops (fun l2=>Region.seqB .any ops (ops.size-n) n l2) n ks l0) ks0 (Array.replicate ops.size false)
theorem wp_region_pre {id:Nat}{a:Act}{w:World}{l:List Oper}(f0 n:Nat)(ks0 ks:List Nat)(S:World→Prop)(hm:P.follows .mixedOrders=true)(hB:textB3 l.toArray f0 n ks0 ks=true)
 (hQ:∀c a d v w,Q (.panic c) (Act.put a d v) w→Q (.panic c) a w)
 (h:wpSeq P l.toArray Q (fun _=>True) (fun a' w'=>S w'∧wpSeq P l.toArray Q S (fun a' w'=>wpList P l.toArray Q (l.drop n) a' w') (ks.map fun k=>l.getD k default) a' w') (ks0.map fun k=>l.getD k default) a w.drew):(Code.region id l.toArray true).wp P Q a w:=by
 unfold textB3 at hB;simp only[Bool.and_eq_true,decide_eq_true_eq]at hB;obtain⟨⟨⟨hsel,hn⟩,hks⟩,hpre⟩:=hB;have hdl:(l.drop n).length=l.toArray.size-n:=by simp
 have inv0:HeadInv .any l.toArray n (Array.replicate l.toArray.size false):=
  ⟨by simp,fun j oj _ hl=>(by rw[getD_replicate_false]at hl;cases hl),fun t _ ht=>getD_in (by simpa using ht) (getD_replicate_false _ _)⟩
 have he:∀ks:List Nat,(ks.map fun k=>l.toArray.getD k default)=ks.map fun k=>l.getD k default:=by
  intro ks;apply List.map_congr_left;intro k _;simp[Array.getD_eq_getD_getElem?]
 refine wp_region_any hm ?_
 have:=wpAny_pre (md:= .any) (n:=n) (g:=ks.length+(l.toArray.size-n)) (F:=fun l0=>waitL .any l.toArray f0 n l0&&lexHeadG .any l.toArray (fun l2=>Region.seqB .any l.toArray (l.toArray.size-n) n l2) n ks l0)
  (R:=fun a' w'=>S w'∧wpSeq P l.toArray Q S (fun a' w'=>wpList P l.toArray Q (l.drop n) a' w') (ks.map fun k=>l.getD k default) a' w') hsel hQ (fun listed a' w' inv hF hR=>by
    simp only[Bool.and_eq_true]at hF
    have H2:=wpAnyU_lex (md:= .any) (f0:=f0) (n:=n) (l0:=listed) (F:=fun l2=>Region.seqB .any l.toArray (l.toArray.size-n) n l2) (R:=fun a' w'=>wpList P l.toArray Q (l.drop n) a' w')
     hsel hF.1 hn hQ ks listed a' w' inv (fun _ h=>h) hF.2 hR.1 (by rw[he];exact hR.2)
    exact wpAny_of_headW (Q:=Q) (g:=l.toArray.size-n) (fun listed a' w' hL=>by
     have:=wpAny_of_seq (md:= .any) (Q':=Q) (l.drop n) n listed a' w' (fun j=>by simp[List.getElem?_drop]) (by rw[hdl];exact hL.2.2.1) hL.2.2.2.2;rwa[hdl]at this) _ _ _ _ H2) ks0 _ a w.drew inv0 hpre (by rw[he];exact h)
 rw[show ks.length+(l.toArray.size-n)+ks0.length=l.toArray.size by omega]at this;exact this
end
def Ed (w:World)(b:Nat)(s:Ses)(c:Cmd):Prop:=
 ∃oa oc pa pc fa fc ea ec va vc,Blk w b #[.slice oa s.obs.length oc,.slice pa s.past.length pc,.slice fa s.fut.length fc,.int .i64 c.kind,.string (str c.name),.string (str c.on),.string (str c.other),.int .i64 c.q,.int .i64 c.g.n,.slice ea c.g.es.length ec,.slice va c.vals.length vc] 107∧
  ObsR (mask b w) (.slice oa s.obs.length oc) s.obs∧LsoR (mask b w) (.slice pa s.past.length pc) s.past∧LsoR (mask b w) (.slice fa s.fut.length fc) s.fut∧EdgesR (mask b w) (.slice ea c.g.es.length ec) c.g.es∧IntsR (mask b w) (.slice va c.vals.length vc) c.vals
theorem Ed.below {w w':World}{b:Nat}{s:Ses}{c:Cmd}(h:Ed w b s c)(hB:Below w.heap.size w w'):Ed w' b s c:=by
 obtain⟨oa,oc,pa,pc,fa,fc,ea,ec,va,vc,hb,h1,h2,h3,h4,h5⟩:=h;have k:=mask_below (b:=b) hB;exact⟨oa,oc,pa,pc,fa,fc,ea,ec,va,vc,hb.below hB,h1.below k,h2.below k,h3.below k,h4.below k,h5.below k⟩
theorem Ed.lt {w:World}{b:Nat}{s:Ses}{c:Cmd}(h:Ed w b s c):b<w.heap.size:=by
 obtain⟨oa,oc,pa,pc,fa,fc,ea,ec,va,vc,hb,_⟩:=h;exact hb.lt
def FrB (lo b:Nat)(w:World):Prop:=(∀ v g,w.cell? ⟨b,1,none⟩=some v→v.ownBlock=some g→lo≤g)∧(∀ v g,w.cell? ⟨b,2,none⟩=some v→v.ownBlock=some g→lo≤g)
theorem FrB.of {lo b:Nat}{w:World}{cs:Array Value}{T:TypeId}(h:Blk w b cs T)(h1:∀v g,cs[1]? =some v→v.ownBlock=some g→lo≤g)(h2:∀v g,cs[2]? =some v→v.ownBlock=some g→lo≤g):FrB lo b w:=
 ⟨fun v g hv=>h1 v g ((h.cell 1).symm.trans hv),fun v g hv=>h2 v g ((h.cell 2).symm.trans hv)⟩
def EdF (lo:Nat)(w:World)(b:Nat)(s:Ses)(c:Cmd):Prop:=Ed w b s c∧FrB lo b w
theorem EdF.mono {lo lo':Nat}{w:World}{b:Nat}{s:Ses}{c:Cmd}(h:EdF lo w b s c)(hl:lo'≤lo):EdF lo' w b s c:=
 ⟨h.1,fun v g a k=>Nat.le_trans hl (h.2.1 v g a k),fun v g a k=>Nat.le_trans hl (h.2.2 v g a k)⟩
def laterP (ls:List (List Ob))(x:List Ob):List (List Ob):=(ls++[x]).drop (ls.length+1-64)
theorem laterP_len (ls:List (List Ob))(x:List Ob):(laterP ls x).length=ls.length+1-(ls.length+1-64):=by simp[laterP]
def becomeP (s:Ses)(l:List Ob):Ses:=⟨l,laterP s.past s.obs,[]⟩
theorem later_reads {w w':World}{b:Nat}{oa:Option Addr}{oc:Nat}{ls:List (List Ob)}{l:List Ob}{vs:List Value}{e:Ending}(hb:b<w.heap.size)(hl:vs.length=ls.length)
 (hv:∀k,k<ls.length→ObsR (mask b w) (vs[k]?.getD undef) (ls[k]?.getD [])) (ho:ObsR (mask b w) (.slice oa l.length oc) l) (hn:ls.length≤64)
 (h:RetLater ls.length (vs++[Value.slice oa l.length oc]) w e w'):∃a' cap',e= .returned (.slice a' (laterP ls l).length cap')∧LsoR (mask b w') (.slice a' (laterP ls l).length cap') (laterP ls l)∧Below w.heap.size w w'∧∀g,(Value.slice a' (laterP ls l).length cap').ownBlock=some g→w.heap.size≤g:=by
 obtain⟨a',cap',rfl,hc,h1,h2,h3,hB⟩:=h;have hs:Sub (mask b w) (mask b w'):=(sub_below hB).mask b;refine⟨a',cap',by rw[laterP_len],⟨a',cap',(vs++[Value.slice oa l.length oc]).drop (ls.length+1-64),rfl,by rw[laterP_len];exact h1,h2,by rw[laterP_len];omega,hc.mask (b:=b) fun n c e=> ?_,by rw[laterP_len];simp[hl],fun k hk=> ?_⟩,hB,fun g e=>h3 g (by cases a'<;>exact e)⟩
 ·have e':(Value.slice a' 0 0).ownBlock=some b:=by cases a'<;>exact e
  have:=h3 b e';omega
 ·rw[laterP_len]at hk
  unfold laterP;rw[List.getElem?_drop,List.getElem?_drop];by_cases hlt:ls.length+1-64+k<ls.length
  ·rw[List.getElem?_append_left (by omega),List.getElem?_append_left hlt]
   exact(hv _ hlt).sub hs
  ·have e:ls.length+1-64+k=ls.length:=by omega
   rw[e,List.getElem?_append_right (by omega),List.getElem?_append_right (Nat.le_refl _),hl,Nat.sub_self];exact ho.sub hs
theorem s_become (s:Ses)(c:Cmd)(b:Nat)(l:List Ob)(la:Option Addr)(lc:Nat)(w:World)(hE:Ed w b s c)(hl:ObsR (mask b w) (.slice la l.length lc) l)(hn:s.past.length≤64):
 Calls Tryz.prog 148 #[.pointer (some ⟨b,0,none⟩),.slice la l.length lc] w fun e w'=>e= .returned (.tuple #[])∧EdF w.heap.size w' b (becomeP s l) c∧w.grownBy w' (some b):=by
 obtain⟨oa,oc,pa,pc,fa,fc,ea,ec,va,vc,hb,ho,hp,hf,he,hv⟩:=hE;have hbl:=hb.lt;obtain⟨pa',pc',vs,ep,p1,p2,p3,p4,p5,p6⟩:=id hp;injection ep with ep1 _ ep3
 subst ep1 ep3;have h1:∀u∈vs,u.oneCell'=true:=by
  intro u hu;obtain⟨k,hk,rfl⟩:=List.getElem_of_mem hu;have:=p6 k (by omega);rw[List.getElem?_eq_getElem hk]at this;obtain⟨_,_,e,_⟩:=this.form;simp only[Option.getD_some]at e;rw[e];rfl
 have HB:=hid hb;have HLT:Hid (∀ W,Below w.heap.size w W→Calls Tryz.prog 151 #[.slice pa s.past.length pc,.slice oa s.obs.length oc] W (RetLater s.past.length (vs++[Value.slice oa s.obs.length oc]) W)):=fun W h=>s_later pa s.past.length pc vs oa s.obs.length oc W p5 hn (p4.unmask.below h) h1
 have HRD:Hid (∀ W w' e,Below w.heap.size w W→RetLater s.past.length (vs++[Value.slice oa s.obs.length oc]) W e w'→∃a' cap',e= .returned (.slice a' (laterP s.past s.obs).length cap')∧LsoR (mask b w') (.slice a' (laterP s.past s.obs).length cap') (laterP s.past s.obs)∧Below W.heap.size W w'∧∀g,(Value.slice a' (laterP s.past s.obs).length cap').ownBlock=some g→W.heap.size≤g):=fun W w' e h hr=>
  later_reads (Nat.lt_of_lt_of_le hbl h.size) p5 (fun k hk=>(p6 k hk).below (mask_below h)) (ho.below (mask_below h)) hn hr
 have HREST:Hid (∀ w',w.grownBy w' (some b)→ObsR (mask b w') (.slice la l.length lc) l∧EdgesR (mask b w') (.slice ea c.g.es.length ec) c.g.es∧IntsR (mask b w') (.slice va c.vals.length vc) c.vals):=fun w' hg=>⟨hl.later hg,he.later hg,hv.later hg⟩;clear ho hp hf he hv hl p1 p2 p3 p4 p5 p6 h1;go_enter Tryz.func148,Tryz.ntmps148;go_upto_region 0 with fail;have x0:=HB.out.cell 0;have x1:=HB.out.cell 1;simp only[xG,xH,xI]at x0 x1;let S:World→Prop:=fun w'=>Below w.heap.size w w'
 (refine wp_region_pre 2 15 [0,1,2,3,4,5,6,8,9,10,11,14] [7,12,13] S (by kernel_rfl) (by kernel_rfl) (by intro _ _ d _ _ h;cases d<;>exact h) ?_;simp only[xA,xB,xC,xD,xE,xF]);(repeat ((refine' wpSeq_take rfl _ (by rfl) ?_ ?_;rotate_left;focus(intro w' hS;(try dsimp only at hS);skip;go_simp;(first|done|with_reducible rfl));(try go_frame));(try go_frame)));refine wpSeq_nil ⟨Below.drew (Below.refl _ _),?_⟩;(repeat ((refine' wpSeq_take rfl _ (by rfl) ?_ ?_;rotate_left;focus(intro w' hS;(try dsimp only at hS);have q0:w'.cell? ⟨b,0,none⟩=some (.slice oa s.obs.length oc):=(Below.cell hS (p:=⟨b,0,none⟩) hbl).trans x0;have q1:w'.cell? ⟨b,1,none⟩=some (.slice pa s.past.length pc):=(Below.cell hS (p:=⟨b,1,none⟩) hbl).trans x1;go_simp;(first|done|with_reducible rfl));(try go_frame));(try go_frame)))
 refine wpSeq_call rfl (by rfl) (fun K hK=> ?_);go_simp;refine(HLT.out _ (Below.drew (Below.refl _ _))).mono ?_;intro e w1 hr;obtain⟨a1,c1,rfl,hL,hB1,hfr⟩:=HRD.out _ _ _ (Below.drew (Below.refl _ _)) hr;have HFR:=hid hfr;clear hfr;have hB1':Below w.heap.size w w1:=up (Below.drew (Below.refl _ _)) hB1;refine hK _ _ hB1' ?_;clear hK K hr;(try go_frame);refine wpSeq_nil ?_;clear S;have HBk:=hid (HB.out.below hB1');have HLR:=hid hL;have HB1:=hid hB1';clear hL hB1 hB1' x0 x1 HB HLT HRD;have lb:=HBk.out.lt;have f0:=HBk.out.frozen 0;have f1:=HBk.out.frozen 1;have f2:=HBk.out.frozen 2;have y0:=HBk.out.cell 0
 have y1:=HBk.out.cell 1;have y2:=HBk.out.cell 2;simp only[xG,xH,xI]at y0 y1 y2;go_wp2_with fail
 have hg1:w1.grownBy (((w1.setCell ⟨b,1,none⟩ (.slice a1 (laterP s.past s.obs).length c1)).setCell ⟨b,2,none⟩ (.slice none 0 0)).setCell ⟨b,0,none⟩ (.slice la l.length lc)) (some b):=
  grown_tr (grown_tr (grown_put _ _ _ _) (grown_put _ _ _ _)) (grown_put _ _ _ _)
 have hg:=grown_tr (Below.toGrown HB1.out (some b)) hg1;have hbk:=((HBk.out.set 1 (.slice a1 (laterP s.past s.obs).length c1)).set 2 (.slice none 0 0)).set 0 (.slice la l.length lc);simp only[xM,xJ,xK]at hbk;obtain⟨r1,r2,r3⟩:=HREST.out _ hg;go_end0;exact⟨rfl,⟨⟨la,lc,a1,c1,none,0,ea,ec,va,vc,hbk,r1,HLR.out.later hg1,LsoR.nil _,r2,r3⟩,FrB.of hbk (fun v g e k=>by injection e with e;subst e;exact HFR.out g k) (fun v g e k=>by injection e with e;subst e;cases k)⟩,hg⟩
theorem cmpB_zero:∀a b:List UInt8,Lib.compareBytes a b=0↔a=b
 |[],[]=>by simp[Lib.compareBytes]
 |[],_::_=>by simp[Lib.compareBytes]
 |_::_,[]=>by simp[Lib.compareBytes]
 |a::xs,b::ys=>by
  unfold Lib.compareBytes;have ih:=cmpB_zero xs ys;by_cases h1:a<b
  ·rw[if_pos h1]
   constructor
   ·intro h;omega
   ·intro h;injection h with h _;rw[h]at h1;exact absurd h1 (by simp)
  ·rw[if_neg h1]
   by_cases h2:b<a
   ·rw[if_pos h2]
    constructor
    ·intro h;omega
    ·intro h;injection h with h _;rw[h]at h2;exact absurd h2 (by simp)
   ·rw[if_neg h2,ih]
    have e:a=b:=by rw[← UInt8.toNat_inj];rw[UInt8.lt_iff_toNat_lt]at h1 h2;omega
    rw[e];simp
theorem cmpB_neg:∀a b:List UInt8,Lib.compareBytes a b<0↔Op.bytesLess a b=true
 |[],[]=>by simp[Lib.compareBytes,Op.bytesLess]
 |[],_::_=>by simp[Lib.compareBytes,Op.bytesLess]
 |_::_,[]=>by simp[Lib.compareBytes,Op.bytesLess]
 |a::xs,b::ys=>by
  unfold Lib.compareBytes Op.bytesLess;have ih:=cmpB_neg xs ys;by_cases h1:a<b
  ·rw[if_pos h1];simp[h1]
  ·rw[if_neg h1]
   by_cases h2:b<a
   ·rw[if_pos h2]
    have hne:¬a=b:=by intro e;rw[e]at h2;exact absurd h2 (by simp)
    simp[h1,hne]
   ·rw[if_neg h2]
    have e:a=b:=by rw[← UInt8.toNat_inj];rw[UInt8.lt_iff_toNat_lt]at h1 h2;omega
    rw[ih,e];simp
theorem less_trans:∀{a b c:List UInt8},Op.bytesLess a b=true→Op.bytesLess b c=true→Op.bytesLess a c=true
 |_,[],_,h,_=>by cases ‹List UInt8›<;>simp[Op.bytesLess]at h
 |_,_::_,[],_,h=>by simp[Op.bytesLess]at h
 |[],_::_,_::_,_,_=>by simp[Op.bytesLess]
 |a::xs,b::ys,c::zs,h1,h2=>by
  unfold Op.bytesLess at h1 h2⊢;simp only[Bool.or_eq_true,decide_eq_true_eq,Bool.and_eq_true,beq_iff_eq]at h1 h2⊢;rcases h1 with h1|⟨rfl,h1⟩
  ·rcases h2 with h2|⟨rfl,h2⟩
   ·left;rw[UInt8.lt_iff_toNat_lt]at *;omega
   ·left;exact h1
  ·rcases h2 with h2|⟨rfl,h2⟩
   ·left;exact h2
   ·right;exact⟨rfl,less_trans h1 h2⟩
theorem less_tot:∀{a b:List UInt8},Op.bytesLess a b=false→a≠b→Op.bytesLess b a=true
 |[],[],_,h=>absurd rfl h
 |[],_::_,h,_=>by simp[Op.bytesLess]at h
 |_::_,[],_,_=>by simp[Op.bytesLess]
 |a::xs,b::ys,h,hne=>by
  unfold Op.bytesLess at h⊢;simp only[Bool.or_eq_false_iff,decide_eq_false_iff_not,Bool.and_eq_false_iff,beq_eq_false_iff_ne]at h;simp only[Bool.or_eq_true,decide_eq_true_eq,Bool.and_eq_true,beq_iff_eq];by_cases e:a=b
  ·subst e
   right;refine⟨rfl,less_tot ?_ fun e=>hne (by rw[e])⟩;rcases h.2 with h2|h2
   ·exact absurd rfl h2
   ·exact h2
  ·left
   have h1:=h.1;rw[UInt8.lt_iff_toNat_lt]at*
   have:a.toNat≠b.toNat:=fun e2=>e (UInt8.toNat_inj.1 e2);omega
def SortedN (l:List Ob):Prop:=∀j k,j<k→k<l.length→Op.bytesLess (l[j]?.getD default).name (l[k]?.getD default).name=true
theorem sortedN_adj {l:List Ob}(h:∀k,k+1<l.length→Op.bytesLess (l[k]?.getD default).name (l[k+1]?.getD default).name=true):SortedN l:=by
 intro j k hjk;induction k with
 |zero=>omega
 |succ k ih=>
  intro hk
  by_cases e:j=k
  ·subst e;exact h j hk
  ·exact less_trans (ih (by omega) (by omega)) (h k hk)
theorem obs_sorted {l:List Ob}(h:obsErr l=0):SortedN l:=by
 unfold obsErr at h;split at h
 ·omega
 ·refine sortedN_adj fun k hk=> ?_
  have:=fstE_zero h (k+1) (Nat.zero_le _) (by omega);unfold obAt at this;split at this
  ·rename_i h1 h2;exact absurd this h2
  ·split at this
   ·omega
   ·rename_i h1 h2 h3
    simp only[Nat.zero_lt_succ,decide_true,Bool.true_and,Nat.add_sub_cancel]at h3;unfold leN at h3;simp only[Bool.not_eq_true,Bool.or_eq_false_iff,beq_eq_false_iff_ne]at h3;exact less_tot h3.1 h3.2
def posN (l:List Ob)(n:List UInt8):Nat:=(l.takeWhile fun x=>Op.bytesLess x.name n).length
theorem posN_le (l:List Ob)(n:List UInt8):posN l n≤l.length:=by
 unfold posN;induction l with
 |nil=>simp
 |cons x l ih=>rw[List.takeWhile_cons];split<;>simp<;>omega
theorem posN_lt (l:List Ob)(n:List UInt8):∀k,k<posN l n→Op.bytesLess (l[k]?.getD default).name n=true:=by
 unfold posN;induction l with
 |nil=>intro k hk;simp at hk
 |cons x l ih=>
  intro k hk
  rw[List.takeWhile_cons]at hk
  split at hk
  ·rename_i h
   cases k with
   |zero=>simpa using h
   |succ k=>simpa using ih k (by simpa using hk)
  ·simp at hk
theorem posN_ge (l:List Ob)(n:List UInt8)(hp:posN l n<l.length):Op.bytesLess (l[posN l n]?.getD default).name n=false:=by
 unfold posN at hp⊢;induction l with
 |nil=>simp at hp
 |cons x l ih=>
  rw[List.takeWhile_cons]at hp⊢
  split
  ·rename_i h1
   rw[if_pos h1]at hp;simpa using ih (by simpa using hp)
  ·rename_i h1
   simpa using h1
theorem posN_of {l:List Ob}{n:List UInt8}{i:Nat}(h1:∀k,k<i→Op.bytesLess (l[k]?.getD default).name n=true)(h2:i<l.length→Op.bytesLess (l[i]?.getD default).name n=false)(hi:i≤l.length):posN l n=i:=by
 rcases Nat.lt_trichotomy (posN l n) i with h|h|h
 ·have a:=posN_ge l n (by omega)
  rw[h1 _ h]at a;cases a
 ·exact h
 ·have a:=posN_lt l n i h
  rw[h2 (by have:=posN_le l n;omega)]at a;cases a
theorem sortedN_lt {l:List Ob}{n:List UInt8}(hs:SortedN l){h:Nat}(hh:h<l.length)(h1:Op.bytesLess (l[h]?.getD default).name n=true)(k:Nat)(hk:k≤h):Op.bytesLess (l[k]?.getD default).name n=true:=by
 by_cases e:k=h
 ·subst e;exact h1
 ·exact less_trans (hs k h (by omega) hh) h1
theorem sortedN_ge {l:List Ob}{n:List UInt8}(hs:SortedN l){h:Nat}(hh:h<l.length)(h1:Op.bytesLess (l[h]?.getD default).name n=false)(k:Nat)(hk:h≤k)(hk2:k<l.length):Op.bytesLess (l[k]?.getD default).name n=false:=by
 cases hb:Op.bytesLess (l[k]?.getD default).name n with
 |false=>rfl
 |true=>rw[sortedN_lt hs hk2 hb h hk]at h1;cases h1
def foundN (l:List Ob)(n:List UInt8):Bool:=decide (posN l n<l.length)&&decide ((l[posN l n]?.getD default).name=n)
def putOb (l:List Ob)(y:Ob):List Ob:=if foundN l y.name then l.set (posN l y.name) y else l.take (posN l y.name)++y::l.drop (posN l y.name)
def renC:Go.Shelf.Ren:=⟨fun|106=>192|213=>253|265=>319|n=>n,fun|3=>3|9=>9|n=>n,fun|n=>n⟩
theorem lay106:Go.Proofs.Lays.n106 Tryz.prog renC:=
 {mixed:=by kernel_rfl,
  f106:=by kernel_rfl,
  f213:=by kernel_rfl,
  f265:=by kernel_rfl,
  t3:=by kernel_rfl,
  a3:=fun _=>by kernel_rfl,
  z3:=fun _=>by kernel_rfl,
  v3:=fun _=>by kernel_rfl,
  t9:=by kernel_rfl,
  a9:=fun _=>by kernel_rfl,
  z9:=fun _=>by kernel_rfl,
  v9:=fun _=>by kernel_rfl}
theorem s_cmp (x n:List UInt8)(v1 v2 v3 v4:Value)(w:World):
 Calls Tryz.prog 191 #[.agg #[.string (str x),v1,v2,v3,v4],.string (str n)] w fun e w'=>e= .returned (.int .i64 (Lib.compareBytes x n))∧Below w.heap.size w w':=by
 have hc:=hid (fun W=>Any.strings_Compare lay106 (str x) (str n) W);have hf:renC.f 106=192:=rfl;rw[hf]at hc;have hB:Below w.heap.size w (w.alloc (.cells #[.string (str x),v1,v2,v3,v4] 67)):=by go_grown
 have HB:=hid hB;clear hB hf;go_enter Tryz.func191,Tryz.ntmps191;go_wp2_with fail;refine(hc.out _).mono ?_;rintro e w1 ⟨rfl,rfl⟩;dsimp only;go_wp2_with fail;go_ret;exact⟨rfl,HB.out⟩
def RetBsN (w:World)(l:List Ob)(n:List UInt8)(e:Ending)(w':World):Prop:=e= .returned (.tuple #[.int .i64 (posN l n),.bool (foundN l n)])∧Below w.heap.size w w'
theorem s_Bsf (l:List Ob)(v:Value)(n:List UInt8)(w:World)(hl:ObsR w v l)(hs:SortedN l)(hn:l.length≤100000):
 Calls Tryz.prog 190 #[v,.string (str n),.func (.func 191) #[] #[]] w (RetBsN w l n):=by
 obtain⟨a,cap,rfl,hcap,hcm,hlen⟩:=hl.form;have HL:=hid hl;have HS:=hid hs;clear hl hs;go_enter Tryz.func190,Tryz.ntmps190;go_wp2_with fail;go_loopw [9,10] (fun iv jv wr=>∃i j:Nat,i≤j∧j≤l.length∧iv= .int .i64 i∧jv= .int .i64 j∧Hid (∀ k,k<i→Op.bytesLess (l[k]?.getD default).name n=true)∧Hid (∀ k,j≤k→k<l.length→Op.bytesLess (l[k]?.getD default).name n=false)∧Hid (Below w.heap.size w wr)) (fun iv jv _=>(intOf jv).toNat-(intOf iv).toNat);case atStart=>exact⟨0,l.length,Nat.zero_le _,Nat.le_refl _,rfl,rfl,fun k hk=>absurd hk (by omega),fun k hk hk2=>absurd hk (by omega),Below.refl _ _⟩
 case round=>
  obtain⟨i,j,hij,hj,rfl,rfl,HLO,HHI,HB⟩:=hrel;obtain⟨wo,rfl⟩:∃W:World,W=wr:=⟨_,rfl⟩;by_cases hlt:i<j
  ·obtain⟨h,hh⟩:∃h:Nat,h=(i+j)/2:=⟨_,rfl⟩
   have hltI:(i:Int)<(j:Int):=by omega
   have hh2:((i:Int)+(j:Int))/2=(h:Int):=by omega
   have hhl:h<l.length:=by omega
   have hih:i≤h∧h<j:=by omega
   obtain⟨b,off,ea,ec,da,dc,rfl,hb,c0,c1,c2,c3,c4,he,hd⟩:=HL.out.atB HB.out h hhl;have hl0:(0:Int)≤(h:Int):=by omega
   have hl1:(h:Int)<(l.length:Int):=by omega
   have wh:IntKind.i64.wrap ((h:Int)+1)=(h:Int)+1:=IntWalk.i64_in _ (by omega);have HSL:=hid (fun h1 k hk=>sortedN_lt (l:=l) (n:=n) HS.out hhl h1 k hk);have HSG:=hid (fun h1 k hk hk2=>sortedN_ge (l:=l) (n:=n) HS.out hhl h1 k hk hk2);have HCN:=hid (cmpB_neg (l[h]?.getD default).name n);have HCP:=hid (s_cmp (l[h]?.getD default).name n);clear he hd hh hhl hlt;generalize l[h]?.getD default=x at*
   generalize Lib.compareBytes x.name n=z at*
   go_wp2_with fail;refine(HCP.out _ _ _ _ _).mono ?_;rintro e w1 ⟨rfl,hB1⟩;have HB1:=hid (up HB.out hB1);clear hB1 c0 c1 c2 c3 c4 hb HCP;dsimp only;by_cases hz:z<0
   ·have HLT:=hid (HSL.out (HCN.out.1 hz))
    clear HSL HSG HCN;go_wp2_with fail;go_roundw;case rel=>exact⟨h+1,j,by omega,hj,by go_num,rfl,fun k hk=>HLT.out k (by omega),HHI,HB1⟩
    case measure=>simp[intOf];omega
   ·have hbl:Op.bytesLess x.name n=false:=by
     cases hq:Op.bytesLess x.name n with
     |false=>rfl
     |true=>exact absurd (HCN.out.2 hq) hz
    have HLT:=hid (HSG.out hbl);clear HSL HSG HCN hbl;go_wp2_with fail;go_roundw;case rel=>exact⟨i,h,by omega,by omega,rfl,rfl,HLO,fun k hk hk2=>HLT.out k hk hk2,HB1⟩
    case measure=>simp[intOf];omega
  ·obtain rfl:i=j:=by omega
   clear hlt;have hp:posN l n=i:=posN_of HLO.out (fun h=>HHI.out i (Nat.le_refl _) h) hj;have HP:=hid hp;clear hp HLO HHI hij;by_cases hil:i<l.length
   ·have hilI:(i:Int)<(l.length:Int):=by omega
    have hdI:decide ((i:Int)<(l.length:Int))=true:=by simpa using hil
    have hi0:(0:Int)≤(i:Int):=by omega
    obtain⟨b,off,ea,ec,da,dc,rfl,hb,c0,c1,c2,c3,c4,he,hd⟩:=HL.out.atB HB.out i hil;have HF:Hid (foundN l n=(Lib.compareBytes (l[i]?.getD default).name n==0)):=by
     show _=_;unfold foundN;rw[HP.out,decide_eq_true hil,Bool.true_and,Bool.eq_iff_iff];simp only[decide_eq_true_eq,beq_iff_eq];exact(cmpB_zero _ _).symm
    have HCP:=hid (s_cmp (l[i]?.getD default).name n);clear he hd;generalize l[i]?.getD default=x at*
    generalize Lib.compareBytes x.name n=z at*
    go_wp2_with fail;refine(HCP.out _ _ _ _ _).mono ?_;rintro e w1 ⟨rfl,hB1⟩;have HB1:=hid (up HB.out hB1);clear hB1 c0 c1 c2 c3 c4 hb HCP;dsimp only;generalize hzb:(z==0)=zb at*
    have HZB:=hid hzb;go_wp2_with fail;go_ret2;exact⟨by rw[HP.out,HF.out];rfl,HB1.out⟩
   ·obtain rfl:i=l.length:=by omega
    have hdI:decide ((l.length:Int)<(l.length:Int))=false:=by simp
    have HF:Hid (foundN l n=false):=by
     show _=_;unfold foundN;rw[HP.out];simp
    go_wp2_with fail;go_ret2;exact⟨by rw[HP.out,HF.out];rfl,HB.out⟩
def plO (l:List Ob)(n:List UInt8):Nat:=(l.takeWhile fun x=> !(x.on==n)).length
theorem plO_le (l:List Ob)(n:List UInt8):plO l n≤l.length:=by
 unfold plO;induction l with
 |nil=>simp
 |cons x l ih=>rw[List.takeWhile_cons];split<;>simp<;>omega
theorem plO_lt (l:List Ob)(n:List UInt8):∀k,k<plO l n→(l[k]?.getD default).on≠n:=by
 unfold plO;induction l with
 |nil=>intro k hk;simp at hk
 |cons x l ih=>
  intro k hk
  rw[List.takeWhile_cons]at hk
  split at hk
  ·rename_i h
   cases k with
   |zero=>simpa using h
   |succ k=>simpa using ih k (by simpa using hk)
  ·simp at hk
theorem plO_at (l:List Ob)(n:List UInt8)(h:plO l n<l.length):(l[plO l n]?.getD default).on=n:=by
 unfold plO at h⊢;induction l with
 |nil=>simp at h
 |cons x l ih=>
  rw[List.takeWhile_cons]at h⊢
  split
  ·rename_i h1
   rw[if_pos h1]at h;simpa using ih (by simpa using h)
  ·rename_i h1
   simpa using h1
theorem plO_of {l:List Ob}{n:List UInt8}{k:Nat}(h1:∀j,j<k→(l[j]?.getD default).on≠n)(h2:k<l.length)(h3:(l[k]?.getD default).on=n):plO l n=k:=by
 rcases Nat.lt_trichotomy (plO l n) k with h|h|h
 ·exact absurd (plO_at l n (by omega)) (h1 _ h)
 ·exact h
 ·exact absurd h3 (plO_lt l n k h)
theorem plO_none {l:List Ob}{n:List UInt8}(h:∀j,j<l.length→(l[j]?.getD default).on≠n):plO l n=l.length:=by
 rcases Nat.lt_or_ge (plO l n) l.length with h1|h1
 ·exact absurd (plO_at l n h1) (h _ h1)
 ·have:=plO_le l n;omega
def plOI (l:List Ob)(n:List UInt8):Int:=if plO l n<l.length then plO l n else -1
theorem s_used1 (x n:List UInt8)(v1 v2 v3 v4:Value)(nb:Nat)(w:World)(hn:w.cell? ⟨nb,0,none⟩=some (.string (str n)))(hlt:nb<w.heap.size):
 Calls Tryz.prog 189 #[.agg #[v1,.string (str x),v2,v3,v4],.pointer (some ⟨nb,0,none⟩)] w fun e w'=>e= .returned (.bool (x==n))∧Below w.heap.size w w':=by
 have he:=str_eqb x n;have hB:Below w.heap.size w (w.alloc (.cells #[v1,.string (str x),v2,v3,v4] 67)):=by go_grown
 have HB:=hid hB;generalize (x==n)=z at*
 clear hB;go_enter Tryz.func189,Tryz.ntmps189;go_wp2;go_ret;exact⟨rfl,HB.out⟩
theorem s_usedI (l:List Ob)(v:Value)(n:List UInt8)(nb:Nat)(w:World)(hl:ObsR w v l)(hn:w.cell? ⟨nb,0,none⟩=some (.string (str n)))(hlt:nb<w.heap.size):
 Calls Tryz.prog 123 #[v,.func (.func 189) #[] #[.pointer (some ⟨nb,0,none⟩)]] w fun e w'=>e= .returned (.int .i64 (plOI l n))∧Below w.heap.size w w':=by
 obtain⟨a,cap,rfl,hcap,hcm,hlen⟩:=hl.form;have HL:=hid hl;have HN:=hid hn;have HLT:=hid hlt;clear hl hn hlt;go_enter Tryz.func123,Tryz.ntmps123;go_wp2_with fail;go_loopw [8] (fun i wr=>∃k:Nat,k≤l.length∧i= .int .i64 k∧Hid (∀ j,j<k→(l[j]?.getD default).on≠n)∧Hid (Below w.heap.size w wr)) (fun i _=>l.length-(intOf i).toNat);case atStart=>exact⟨0,Nat.zero_le _,rfl,fun j hj=>by omega,Below.refl _ _⟩
 case round=>
  obtain⟨k,hk,rfl,HP,HB⟩:=hrel;obtain⟨W,rfl⟩:∃W:World,W=wr:=⟨_,rfl⟩;by_cases hkl:k<l.length
  ·obtain⟨b,off,ev,dv,rfl,hb,c0,c1,c2,c3,c4,he,hd⟩:=(HL.out.below HB.out).at k hkl
   have hk1:(k:Int)<(l.length:Int):=by omega
   have hk0:(0:Int)≤(k:Int):=by omega
   have wk:IntKind.i64.wrap ((k:Int)+1)=(k:Int)+1:=IntWalk.i64_in _ (by omega);have HST:Hid ((l[k]?.getD default).on≠n→∀j,j<k+1→(l[j]?.getD default).on≠n):=fun h j hj=>by
    by_cases e:j=k
    ·subst e;exact h
    ·exact HP.out j (by omega)
   have HF:Hid ((l[k]?.getD default).on=n→plOI l n=k):=fun h=>by
    have:=plO_of HP.out hkl h;unfold plOI;rw[this,if_pos hkl]
   have hcn:W.cell? ⟨nb,0,none⟩=some (.string (str n)):=(HB.out.cell (p:=⟨nb,0,none⟩) HLT.out).trans HN.out;have hcall:=hid (s_used1 (l[k]?.getD default).on n (.string (str (l[k]?.getD default).name)) (.int .i64 (l[k]?.getD default).g.n) ev dv nb W hcn (Nat.lt_of_lt_of_le HLT.out HB.out.size));clear he hd hcn;generalize l[k]?.getD default=x at*
   by_cases hx:x.on=n
   ·have hxb:(x.on==n)=true:=by simpa using hx
    have hz:=HF.out hx;have HZ:=hid hz;rw[hxb]at hcall;clear hx hxb HF HST hz;go_wp2_with fail;refine hcall.out.mono ?_;rintro e w1 ⟨rfl,hB1⟩;dsimp only;go_wp2_with fail;go_ret;exact⟨ret_int HZ.out.symm,up HB.out hB1⟩
   ·have hxb:(x.on==n)=false:=by simpa using hx
    have hp:=HST.out hx;have HP2:=hid hp;rw[hxb]at hcall;clear hx hxb HF HST hp;go_wp2_with fail;refine hcall.out.mono ?_;rintro e w1 ⟨rfl,hB1⟩;dsimp only;go_wp2_with fail;go_roundw;case rel=>exact⟨k+1,by omega,by go_num,HP2,up HB.out hB1⟩
    case measure=>simp[intOf];omega
  ·obtain rfl:k=l.length:=by omega
   have hz:Hid (plOI l n= -1):=by
    show _=_;unfold plOI;rw[plO_none HP.out,if_neg (by omega)]
   go_wp2_with fail;go_ret;exact⟨ret_int hz.out.symm,HB.out⟩
def usedB (l:List Ob)(n:List UInt8):Bool:=decide (plO l n<l.length)
theorem s_contains (l:List Ob)(v:Value)(n:List UInt8)(nb:Nat)(w:World)(hl:ObsR w v l)(hn:w.cell? ⟨nb,0,none⟩=some (.string (str n)))(hlt:nb<w.heap.size):
 Calls Tryz.prog 188 #[v,.func (.func 189) #[] #[.pointer (some ⟨nb,0,none⟩)]] w fun e w'=>e= .returned (.bool (usedB l n))∧Below w.heap.size w w':=by
 have HC:=hid (s_usedI l v n nb w hl hn hlt);have hz:Hid (usedB l n=decide ((0:Int)≤plOI l n)):=by
  show _=_;unfold usedB plOI;split
  ·rename_i h;rw[decide_eq_true h];symm;rw[decide_eq_true_iff];omega
  ·rename_i h;rw[decide_eq_false h];rfl
 generalize usedB l n=z at*
 clear hl hn hlt;generalize plOI l n=k at*
 go_enter Tryz.func188,Tryz.ntmps188;go_wp2_with fail;refine HC.out.mono ?_;rintro e w1 ⟨rfl,hB1⟩;have HB1:=hid hB1;clear hB1;dsimp only;go_wp2_with fail;go_ret;exact⟨by rw[hz.out];rfl,HB1.out⟩
theorem s_used (s:Ses)(c:Cmd)(b:Nat)(n:List UInt8)(w:World)(hE:Ed w b s c):
 Calls Tryz.prog 140 #[.pointer (some ⟨b,0,none⟩),.string (str n)] w fun e w'=>e= .returned (.bool (usedB s.obs n))∧Below w.heap.size w w':=by
 obtain⟨oa,oc,pa,pc,fa,fc,ea,ec,va,vc,hb,ho,_⟩:=hE;have hbl:=hb.lt;have hB:Below w.heap.size w (w.alloc (.cells #[.string (str n)] 9)):=by go_grown
 have hc:=hid (s_contains s.obs _ n w.heap.size _ (ho.unmask.below hB) (by simp) (by simp));have HB:=hid hB;have x0:=hb.cell 0;simp only[xG,xH,xI]at x0;have hmf:∀(fn:Fn) (first cap:Array Value) (w:World),(Instr.makeFunc fn first cap).run Tryz.prog w= .ok (.func fn first cap) w:=fun _ _ _ _=>rfl;clear hb ho hB;generalize usedB s.obs n=z at*
 go_enter Tryz.func140,Tryz.ntmps140;go_wp2_with fail;refine hc.out.mono ?_;rintro e w1 ⟨rfl,hB1⟩;dsimp only;go_wp2_with fail;go_ret;exact⟨rfl,up HB.out hB1⟩
end Go.Proofs.YtclgllmipcbagaaGreatDoor
