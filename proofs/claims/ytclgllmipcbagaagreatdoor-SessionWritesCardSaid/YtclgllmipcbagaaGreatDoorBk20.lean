/-
  Parts of the proof: XT2 XT3 XReg3 XT4 XT5 XT6
-/
import Derived.Test.YtclgllmipcbagaaGreatDoorBk19
namespace Go.Proofs.YtclgllmipcbagaaGreatDoor
open Go.RowKit
set_option linter.unusedVariables false
set_option linter.unusedSimpArgs false
set_option maxRecDepth 100000
set_option maxHeartbeats 16000000
theorem c_CloneO (a:Option Addr)(n cap:Nat)(vs:List Value)(w:World)(hn:vs.length=n*5)(hb:n*88≤140737488355328)(hc:CellsAt w a vs)(h1:∀u∈vs,u.oneCell'=true)(hz0:n=0→vs=[]):
 Calls Tryz.prog 150 #[.slice a n cap] w fun e w'=>∃v',e= .returned v'∧w'.ownsRow w.heap.size 67 5 v' n vs∧Below w.heap.size w w':=by
 have qT:∀(w:World) (a:Option Addr) (n c n' c':Nat),(binOp .eql 22 (.slice a n c) (.slice none n' c')).run Tryz.prog w= .ok (.bool a.isNone) w:=fun w a n c n' c'=>Lib.run_eql_slice_nil w 22 67 a n c n' c' und_obs;cases a with
 |none=>
  have h0:vs=[]:=by
   rcases hc with h|⟨b,off,h,_⟩
   ·exact h
   ·simp at h
  subst h0
  obtain rfl:n=0:=by simp at hn;omega
  clear hc
  go_enter Tryz.func150,Tryz.ntmps150
  go_wp2_with fail
  go_ret
  exact⟨_,rfl,World.ownsRow_nil _ _ _ _,Below.refl _ _⟩
 |some a=>
  have HC:=hid hc
  have HN:=hid hn
  have H1:=hid h1
  clear hc hn h1 hz0
  obtain⟨i,hi,hz,hsz,hby⟩:=info_parts info_ob
  go_enter Tryz.func150,Tryz.ntmps150
  go_wp2_with (at_builtin;refine wpList_append_own _ rfl _ _ 22 rfl w.heap.size 67 i _ 5 88 und_obs hi hz hsz hby rfl (by decide) _ _ _ rfl (World.ownsRow_made w #[] 0 (Nat.le_refl _) (Nat.zero_le _) (by simp)) a n cap vs rfl ?qc1 ?qc2 H1.out ?qc4 ?qc5 ?qc6 ?_)
  case qc1=>exact HN.out
  case qc2=>exact fun j u hj=>(HC.out.below ((Below.refl _ _).alloc (Nat.le_refl _) _)).newsS j u hj
  case qc4=>unfold maxLen;omega
  case qc5=>omega
  case qc6=>simp
  intro v' w1 hown hgrow hnil
  go_wp2_with fail
  go_ret
  refine⟨v',rfl,by simpa using hown,?_⟩
  exact((Below.refl _ w).alloc (Nat.le_refl _) _).grown hgrow (by simp) (by intro k hk;simp[Value.ownBlock]at hk;omega)
theorem ObV.one {w:World}{x:Ob}{vs:List Value}(h:ObV w x vs):∀u∈vs,u.oneCell'=true:=by
 obtain⟨ev,dv,rfl,⟨_,_,rfl,_⟩,⟨_,_,rfl,_⟩⟩:=h;intro u hu;simp only[List.mem_cons,List.not_mem_nil,or_false]at hu;rcases hu with rfl|rfl|rfl|rfl|rfl<;>rfl
theorem ObC.one {w:World}{ys:List (List Value)}{l:List Ob}(h:ObC w ys l):∀u∈ys.flatten,u.oneCell'=true:=by
 intro u hu;obtain⟨y,hy,hu⟩:=List.mem_flatten.1 hu;obtain⟨k,hk,rfl⟩:=List.getElem_of_mem hy;have:=h.2 k (by rw[← h.1];exact hk);rw[List.getElem?_eq_getElem hk]at this;exact this.one u hu
theorem set5 (u0 u1 u2 u3 u4:Value):∀{ys:List (List Value)},Five ys→∀i,i<ys.length→(ys.set i [u0,u1,u2,u3,u4]).flatten=((((ys.flatten.set (i*5) u0).set (i*5+1) u1).set (i*5+2) u2).set (i*5+3) u3).set (i*5+4) u4
 |[],_,i,hi=>by simp at hi
 |y::ys,h,0,_=>by
  have h5:=h y (by simp);match y,h5 with
  |[a,b,c,d,e],_=>simp
 |y::ys,h,i+1,hi=>by
  have h5:=h y (by simp);have ih:=set5 u0 u1 u2 u3 u4 (ys:=ys) (fun z hz=>h z (by simp[hz])) i (by simpa using hi);have e:∀j,(i+1)*5+j=y.length+(i*5+j):=fun j=>by omega
  have key:∀(xs:List Value) (k:Nat) (u:Value),(y++xs).set (y.length+k) u=y++xs.set k u:=fun xs k u=>by
   rw[List.set_append_right _ _ (by omega),Nat.add_sub_cancel_left]
  rw[List.set_cons_succ,List.flatten_cons,List.flatten_cons,ih];have e0:(i+1)*5=y.length+i*5:=by omega
  rw[e0,key];rw[show y.length+i*5+1=y.length+(i*5+1) by omega,key,show y.length+i*5+2=y.length+(i*5+2) by omega,key,show y.length+i*5+3=y.length+(i*5+3) by omega,key,show y.length+i*5+4=y.length+(i*5+4) by omega,key]
theorem owns_put5 {w:World}{base g n cap:Nat}{e:TypeId}{ys:List (List Value)}(h:w.ownsRow base e 5 (.slice (some ⟨g,0,none⟩) n cap) n ys.flatten)(h5:Five ys){i:Nat}(hi:i<ys.length)(u0 u1 u2 u3 u4:Value):
 (((((w.setCell ⟨g,i*5,none⟩ u0).setCell ⟨g,i*5+1,none⟩ u1).setCell ⟨g,i*5+2,none⟩ u2).setCell ⟨g,i*5+3,none⟩ u3).setCell ⟨g,i*5+4,none⟩ u4).ownsRow base e 5 (.slice (some ⟨g,0,none⟩) n cap) n (ys.set i [u0,u1,u2,u3,u4]).flatten:=by
 rw[set5 u0 u1 u2 u3 u4 h5 i hi];exact(((((h.stored (i*5) u0).1).stored (i*5+1) u1).1.stored (i*5+2) u2).1.stored (i*5+3) u3).1.stored (i*5+4) u4 |>.1
def giveP (s:Ses)(y:Ob):Int×Ses:=if 32<(putOb s.obs y).length then(5,s)else(0,becomeP s (putOb s.obs y))
def RetDeed (b:Nat)(c:Cmd)(r:Int×Ses)(w:World)(e:Ending)(w':World):Prop:=e= .returned (.int .i64 r.1)∧(r.1=0→EdF w.heap.size w' b r.2 c)∧w.grownBy w' (some b)
theorem putOb_len (l:List Ob)(y:Ob):(putOb l y).length=if foundN l y.name then l.length else l.length+1:=by
 unfold putOb;have:=posN_le l y.name;split
 ·simp
 ·simp;omega
theorem below5g {B:Nat}{W0 w:World}{g:Nat}(h:Below B W0 w)(hg:B≤g)(o:Nat)(u0 u1 u2 u3 u4:Value):Below B W0 (((((w.setCell ⟨g,o,none⟩ u0).setCell ⟨g,o+1,none⟩ u1).setCell ⟨g,o+2,none⟩ u2).setCell ⟨g,o+3,none⟩ u3).setCell ⟨g,o+4,none⟩ u4):=
 ((((h.setCell (p:=⟨g,o,none⟩) hg _).setCell (p:=⟨g,o+1,none⟩) hg _).setCell (p:=⟨g,o+2,none⟩) hg _).setCell (p:=⟨g,o+3,none⟩) hg _).setCell (p:=⟨g,o+4,none⟩) hg _
theorem s_give (s:Ses)(c:Cmd)(b:Nat)(y:Ob)(yv:Value)(w:World)(hE:Ed w b s c)(hy:ObR (mask b w) yv y)(hs:SortedN s.obs)(hn:s.obs.length≤32)(hp:s.past.length≤64):
 Calls Tryz.prog 141 #[.pointer (some ⟨b,0,none⟩),yv] w (RetDeed b c (giveP s y) w):=by
 obtain⟨yev,ydv,rfl,hye,hyd⟩:=hy;obtain⟨ya,yc,rfl,_⟩:=id hye;obtain⟨za,zc,rfl,_⟩:=id hyd;have HE:=hid hE;have hbl:=hE.lt;obtain⟨oa,oc,pa,pc,fa,fc,ea,ec,va,vc,hb,ho,_⟩:=hE;have HB:=hid hb;obtain⟨ys,hys,hca,_,hcap,hcm,hln⟩:=obs_rows ho;have HYS:=hid hys;have HLN:=hid hys.1;have H5:=hid hys.five;have HYV:Hid (ObV (mask b w) y [.string (str y.name),.string (str y.on),.int .i64 y.g.n,.slice ya y.g.es.length yc,.slice za y.d.length zc]):=⟨_,_,rfl,hye,hyd⟩;have HCL:=hid (fun W (h:Below w.heap.size w W)=>c_CloneO oa s.obs.length oc ys.flatten W (by rw[hys.five.len,hys.1]) hln (hca.unmask.below h) hys.one (fun h0=>by have:=hys.five.len;rw[hys.1,h0]at this;exact List.eq_nil_of_length_eq_zero (by omega)))
 have HLE:=hid hln;have hBX:Below w.heap.size w (w.alloc (.cells #[.string (str y.name),.string (str y.on),.int .i64 y.g.n,.slice ya y.g.es.length yc,.slice za y.d.length zc] 67)):=by go_grown
 have HX:=hid (Blk.new w #[.string (str y.name),.string (str y.on),.int .i64 y.g.n,.slice ya y.g.es.length yc,.slice za y.d.length zc] 67);have HB0:=hid hBX;have HONE:=hid hys.one;have HS:=hid hs;clear hye hyd hb ho hys hca hln hBX hcap hcm hs;go_enter Tryz.func141,Tryz.ntmps141;go_upto_region 1 with fail;generalize hW0:w.alloc (.cells #[.string (str y.name),.string (str y.on),.int .i64 y.g.n,.slice ya y.g.es.length yc,.slice za y.d.length zc] 67)=W0 at*
 clear hW0;have HB1:=hid (HB.out.below HB0.out);have lb:=HB1.out.lt;have x0:=HB1.out.cell 0;simp only[xG,xH,xI]at x0;go_upto_region 2 with (go_at_call 150;refine(HCL.out W0 HB0.out).mono ?_;rintro e w1 ⟨v1,rfl,ho1,hB1⟩);have HO1:=hid ho1;have HX1:=hid (HX.out.below hB1);have HBB1:=hid (up HB0.out hB1);have hbase:w.heap.size≤W0.heap.size:=HB0.out.size;have HL0:Hid (w.heap.size<W0.heap.size):=HX.out.lt;have HBS:=hid hbase;have HS01:Hid (W0.heap.size≤w1.heap.size):=hB1.size;obtain⟨ga,gc,hv1,g1,g2,g3⟩:=owns_at ho1;subst hv1;have HRD:Hid (ObsR w1 (.slice ga s.obs.length gc) s.obs):=obs_mk (HYS.out.sub ((sub_unmask b w).trans (sub_below (up HB0.out hB1)))) g3 g1 g2 HLE.out
 clear ho1 hB1 x0 lb HB1 HX HCL hbase g3;have lx:=HX1.out.lt;have x0:=HX1.out.cell 0;have x1:=HX1.out.cell 1;have x2:=HX1.out.cell 2;have x3:=HX1.out.cell 3;have x4:=HX1.out.cell 4;simp only[xG,xH,xI]at x0 x1 x2 x3 x4;go_upto_region 3 with (go_at_call 190;refine(s_Bsf s.obs _ y.name w1 HRD.out HS.out (by omega)).mono ?_;rintro e w2 ⟨rfl,hB2⟩);have HX2:=hid (HX1.out.below hB2);have HBB2:=hid (up HBB1.out hB2);have HO2:=hid (owns_below HO1.out hB2);have hs2:=hB2.size;have hg1x:W0.heap.size≤w2.heap.size:=by have:=HS01.out;omega
 have HW2:Hid (w.heap.size<w2.heap.size):=by show _<_;have:=HX1.out.lt;omega
 clear x0 x1 x2 x3 x4 lx HX1 hB2 HBB1 HO1 HRD hs2;have HPL:=hid (posN_le s.obs y.name);have HPO:Hid (putOb s.obs y=if foundN s.obs y.name then s.obs.set (posN s.obs y.name) y else s.obs.take (posN s.obs y.name)++y::s.obs.drop (posN s.obs y.name)):=rfl;have HFL:Hid (foundN s.obs y.name=true→posN s.obs y.name<s.obs.length):=fun h=>by
  unfold foundN at h;simp only[Bool.and_eq_true,decide_eq_true_eq]at h;exact h.1
 have HGV:Hid (giveP s y=if 32<(putOb s.obs y).length then(5,s)else(0,becomeP s (putOb s.obs y))):=rfl;have HPN:=hid (putOb_len s.obs y);generalize posN s.obs y.name=i at*
 have lx:=HX2.out.lt;have x0:=HX2.out.cell 0;have x1:=HX2.out.cell 1;have x2:=HX2.out.cell 2;have x3:=HX2.out.cell 3;have x4:=HX2.out.cell 4;simp only[xG,xH,xI]at x0 x1 x2 x3 x4;cases hf:foundN s.obs y.name with
 |true=>
  rw[hf]at HPO HFL HPN
  have hil:=HFL.out rfl
  rw[if_pos rfl]at HPO HPN
  obtain⟨g,gcap,hv,hg1,hg2⟩:=owns_some HO2.out (by omega)
  injection hv with hva hvb hvc
  subst hva hvc
  have hiI:(i:Int)<(s.obs.length:Int):=by omega
  have hi0:(0:Int)≤(i:Int):=by omega
  have HNE:Hid (w.heap.size≠g):=by show _≠_;have:=(HO2.out.lt g rfl).1;have:=HL0.out;omega
  have hyl:i*5+4<ys.flatten.length:=by rw[H5.out.len,HLN.out];omega
  have hcell:∀k,k<ys.flatten.length→∃u,w2.cell? ⟨g,k,none⟩=some u:=fun k hk=>⟨ys.flatten[k],by rw[HO2.out.cellAt k (by have:=HO2.out.1;omega)];simp[hk]⟩
  obtain⟨q0,z0⟩:=hcell (i*5) (by omega)
  obtain⟨q1,z1⟩:=hcell (i*5+1) (by omega)
  obtain⟨q2,z2⟩:=hcell (i*5+2) (by omega)
  obtain⟨q3,z3⟩:=hcell (i*5+3) (by omega)
  obtain⟨q4,z4⟩:=hcell (i*5+4) (by omega)
  have f0:=HO2.out.frozenAt (i*5)
  have f1:=HO2.out.frozenAt (i*5+1)
  have f2:=HO2.out.frozenAt (i*5+2)
  have f3:=HO2.out.frozenAt (i*5+3)
  have f4:=HO2.out.frozenAt (i*5+4)
  have HO3:=hid (owns_put5 HO2.out H5.out (i:=i) (by rw[HLN.out];exact hil) (.string (str y.name)) (.string (str y.on)) (.int .i64 y.g.n) (.slice ya y.g.es.length yc) (.slice za y.d.length zc))
  have HB3:=hid (below5g HBB2.out (Nat.le_trans HBS.out hg1) (i*5) (.string (str y.name)) (.string (str y.on)) (.int .i64 y.g.n) (.slice ya y.g.es.length yc) (.slice za y.d.length zc))
  have HC3:=hid (ObC.set HYS.out i HYV.out)
  have hlen3:¬(32:Int)<(s.obs.length:Int):=by omega
  clear hcell hyl
  go_upto_region 6 with fail
  generalize ((((w2.setCell ⟨g,i*5,none⟩ (.string (str y.name))).setCell ⟨g,i*5+1,none⟩ (.string (str y.on))).setCell ⟨g,i*5+2,none⟩ (.int .i64 y.g.n)).setCell ⟨g,i*5+3,none⟩ (.slice ya y.g.es.length yc)).setCell ⟨g,i*5+4,none⟩ (.slice za y.d.length zc)=w3 at*
  obtain⟨_,_,e5,h51,h52,h53⟩:=owns_at HO3.out
  injection e5 with e51 _ e53
  subst e51 e53
  have HRL:Hid (ObsR (mask b w3) (.slice (some ⟨g,0,none⟩) (putOb s.obs y).length gc) (putOb s.obs y)):=by
   show ObsR _ _ _;have hsub:Sub (mask b w) (mask b w3):=(sub_below HB3.out).mask b;refine obs_mk ((by rw[HPO.out];exact HC3.out.sub hsub)) (h53.mask (b:=b) fun n c e=> ?_) (by rw[HPN.out];exact h51) h52 (by rw[HPN.out];exact HLE.out);have e':some g=some b:=e;have e2:=Option.some.inj e';have h1:=HL0.out;have h2:=hbl;omega
  have HGZ:Hid (giveP s y=(0,becomeP s (putOb s.obs y))):=by show _=_;rw[HGV.out,if_neg (by rw[HPN.out];omega)]
  rw[HPN.out]at HRL
  have HEB:=hid (s_become s c b (putOb s.obs y) (some ⟨g,0,none⟩) gc w3 (HE.out.below HB3.out) (by rw[HPN.out];exact HRL.out) hp)
  rw[HPN.out]at HEB
  clear x0 x1 x2 x3 x4 z0 z1 z2 z3 z4 f0 f1 f2 f3 f4 h53
  go_wp2_with fail
  refine HEB.out.mono ?_
  rintro e w4 ⟨rfl,hE4,hg4⟩
  dsimp only
  go_wp2_with fail
  go_ret
  exact⟨by rw[HGZ.out];rfl,fun _=>by rw[HGZ.out];exact hE4.mono HB3.out.size,grown_tr (Below.toGrown HB3.out (some b)) hg4⟩
 |false=>
  rw[hf]at HPO HPN
  rw[if_neg (by simp)]at HPO HPN
  have hil:=HPL.out
  have hiI:(i:Int)≤(s.obs.length:Int):=by omega
  have HNEW:=hid (Blk.new w2 #[.string (str y.name),.string (str y.on),.int .i64 y.g.n,.slice ya y.g.es.length yc,.slice za y.d.length zc] 67)
  have HONEY:=hid HYV.out.one
  have HO3:=hid (HO2.out.alloc (.cells #[.string (str y.name),.string (str y.on),.int .i64 y.g.n,.slice ya y.g.es.length yc,.slice za y.d.length zc] 67))
  have HB3:=hid (HBB2.out.alloc (Nat.le_of_lt HW2.out) (.cells #[.string (str y.name),.string (str y.on),.int .i64 y.g.n,.slice ya y.g.es.length yc,.slice za y.d.length zc] 67))
  have HNB:Hid ((Value.slice ga s.obs.length gc).ownBlock≠some w2.heap.size):=fun e=>by have:=(HO2.out.lt _ e).2;omega
  have HSZ3:Hid ((w2.alloc (.cells #[.string (str y.name),.string (str y.on),.int .i64 y.g.n,.slice ya y.g.es.length yc,.slice za y.d.length zc] 67)).heap.size=w2.heap.size+1):=by show _=_;simp
  have HIN:=hid (c_Ins5 (w2.alloc (.cells #[.string (str y.name),.string (str y.on),.int .i64 y.g.n,.slice ya y.g.es.length yc,.slice za y.d.length zc] 67)) W0.heap.size (.slice ga s.obs.length gc) s.obs.length i ys.flatten (.string (str y.name)) (.string (str y.on)) (.int .i64 y.g.n) (.slice ya y.g.es.length yc) (.slice za y.d.length zc) w2.heap.size HO3.out hil (by omega) HNEW.out HONEY.out HONE.out HNB.out (by have:=hg1x;rw[HSZ3.out];omega))
  go_upto_region 6 with (go_at_call 193;refine HIN.out.mono ?_;rintro e w4 ⟨v4,rfl,ho4,hg4⟩)
  have HO4:=hid ho4
  have HB4:Hid (Below w.heap.size w w4):=HB3.out.grown hg4 (by rw[HSZ3.out];have:=HW2.out;omega) (fun q hq=>Nat.le_trans HBS.out (HO2.out.lt q hq).1)
  have HROW:Hid (ys.flatten.take (i*5)++[.string (str y.name),.string (str y.on),.int .i64 y.g.n,.slice ya y.g.es.length yc,.slice za y.d.length zc]++ys.flatten.drop (i*5)=(ys.take i++[.string (str y.name),.string (str y.on),.int .i64 y.g.n,.slice ya y.g.es.length yc,.slice za y.d.length zc]::ys.drop i).flatten):=by
   show _=_;rw[List.flatten_append,List.flatten_cons,H5.out.take,H5.out.drop,List.append_assoc]
  obtain⟨ka,kc,hv4,k1,k2,k3⟩:=owns_at ho4
  subst hv4
  have HC4:Hid (ObC (mask b w4) (ys.take i++[.string (str y.name),.string (str y.on),.int .i64 y.g.n,.slice ya y.g.es.length yc,.slice za y.d.length zc]::ys.drop i) (putOb s.obs y)):=by
   show ObC _ _ _;rw[HPO.out];exact((HYS.out.take i).app (ObC.cons HYV.out (HYS.out.drop i))).sub ((sub_below HB4.out).mask b)
  have HRL:Hid (ObsR (mask b w4) (.slice ka (putOb s.obs y).length kc) (putOb s.obs y)):=by
   show ObsR _ _ _;rw[HROW.out]at k3;refine obs_mk HC4.out (k3.mask (b:=b) fun n c e=> ?_) (by rw[HPN.out];exact k1) k2 (by rw[HPN.out];have:=HLE.out;omega);have e':(Value.slice ka (s.obs.length+1) kc).ownBlock=some b:=by cases ka<;>exact e
   have h1:=(HO4.out.lt b e').1;have h2:=HL0.out;have h3:=hbl;omega
  rw[HPN.out]at HRL
  clear ho4 hg4 k3 x0 x1 x2 x3 x4 HC4 HROW HIN
  by_cases hlong:32<s.obs.length+1
  case pos=>
   have hlI:(32:Int)<(s.obs.length:Int)+1:=by omega
   have HGZ:Hid (giveP s y=(5,s)):=by show _=_;rw[HGV.out,if_pos (by rw[HPN.out];exact hlong)]
   clear hlong;go_wp2_with fail;go_ret;exact⟨by rw[HGZ.out];rfl,fun h=>(by rw[HGZ.out]at h;cases h),Below.toGrown HB4.out (some b)⟩
  case neg=>
   have hlI:¬(32:Int)<(s.obs.length:Int)+1:=by omega
   have HGZ:Hid (giveP s y=(0,becomeP s (putOb s.obs y))):=by show _=_;rw[HGV.out,if_neg (by rw[HPN.out];exact hlong)]
   have HEB:=hid (s_become s c b (putOb s.obs y) ka kc w4 (HE.out.below HB4.out) (by rw[HPN.out];exact HRL.out) hp);rw[HPN.out]at HEB;clear hlong;go_wp2_with fail;refine HEB.out.mono ?_;rintro e w5 ⟨rfl,hE5,hg5⟩;dsimp only;go_wp2_with fail;go_ret;exact⟨by rw[HGZ.out];rfl,fun _=>by rw[HGZ.out];exact hE5.mono HB4.out.size,grown_tr (Below.toGrown HB4.out (some b)) hg5⟩
section
variable {P : Program} {ops : Array Oper} {md : Region.Mode} {Q : Exit → Act → World → Prop} {S : World → Prop}
inductive Plan where
 |seq (ks:List Nat)
 |fork (ks:List Nat) (k1:Nat) (p1:Plan) (k2:Nat) (p2:Plan)
def Plan.len:Plan→Nat
 | .seq ks=>ks.length
 | .fork ks _ p1 _ _=>p1.len+1+ks.length
def wpPlan (P:Program)(ops:Array Oper)(Q:Exit→Act→World→Prop)(S:World→Prop)(op:Nat→Oper)(R:Act→World→Prop):Plan→Act→World→Prop
 | .seq ks,a,w=>wpSeq P ops Q S R (ks.map op) a w
 | .fork ks k1 p1 k2 p2,a,w=>wpSeq P ops Q S (fun a w=>wpSeq P ops Q S (fun a w=>wpPlan P ops Q S op R p1 a w) [op k1] a w∧wpSeq P ops Q S (fun a w=>wpPlan P ops Q S op R p2 a w) [op k2] a w) (ks.map op) a w
def lexG (md:Region.Mode)(ops:Array Oper)(F:Array Bool→Bool)(n:Nat):List Nat→Array Bool→Bool
 |[],listed=>F listed
 |k::ks,listed=>decide (k<n)&&(Region.ready md ops listed).contains k&&(match ops[k]? with
   |some o=>if worldly o then decide (Region.ready md ops listed=[k])else Region.free md ops listed k
   |none=>false)&&lexG md ops F n ks (listed.setIfInBounds k true)
def lexPlan (md:Region.Mode)(ops:Array Oper)(F:Array Bool→Bool)(n:Nat):Plan→Array Bool→Bool
 | .seq ks,listed=>lexG md ops (fun l=>(Region.ready md ops l).all (fun j=>decide (n≤j))&&F l) n ks listed
 | .fork ks k1 p1 k2 p2,listed=>lexG md ops (fun l=>decide (k1<n)&&decide (k2<n)&&decide (Region.ready md ops l=[k1,k2])&&decide (p1.len=p2.len)&&
    (match ops[k1]? with|some o=>worldly o|none=>false)&&(match ops[k2]? with|some o=>worldly o|none=>false)&&
    lexPlan md ops F n p1 (l.setIfInBounds k1 true)&&lexPlan md ops F n p2 (l.setIfInBounds k2 true)) n ks listed
theorem wpAnyU_seq {f0 n g:Nat}{l0:Array Bool}{F:Array Bool→Bool}{R:Act→World→Prop}{L:Array Bool→Act→World→Prop}(hsel:Region.noSelect ops=true)(hs:waitL md ops f0 n l0=true)(hn:n≤ops.size)
 (hQ:∀c a d v w,Q (.panic c) (Act.put a d v) w→Q (.panic c) a w) (hdone:∀listed a w,L listed a w→∀j∈Region.ready md ops listed,n≤j)
 (hK:∀listed a w,HeadInv md ops n listed→(∀ i,l0.getD i false=true→listed.getD i false=true)→F listed=true→S w→R a w→wpAnyW P md ops Q S n L g listed a w):
 ∀(ks:List Nat) (listed:Array Bool) (a:Act) (w:World),HeadInv md ops n listed→(∀ i,l0.getD i false=true→listed.getD i false=true)→
 lexG md ops F n ks listed=true→S w→wpSeq P ops Q S R (ks.map fun k=>ops.getD k default) a w→wpAnyW P md ops Q S n L (g+ks.length) listed a w
 |[],listed,a,w,inv,hsub,hB,hS,h=>hK listed a w inv hsub hB hS h
 |k::ks,listed,a,w,inv,hsub,hB,hS,h=>by
  simp only[lexG,Bool.and_eq_true,decide_eq_true_eq]at hB;obtain⟨⟨⟨hkn,hr⟩,hf⟩,hB'⟩:=hB;have hr':k∈Region.ready md ops listed:=by simpa using hr
  obtain⟨o,h0⟩:∃o,ops[k]? =some o:=⟨ops[k],by simp[show k<ops.size by omega]⟩;have he:ops.getD k default=o:=by simp[Array.getD_eq_getD_getElem?,h0]
  simp only[h0]at hf;rw[List.map_cons,he]at h;have ih:=fun a' w' (hS':S w') (h':wpSeq P ops Q S R (ks.map fun k=>ops.getD k default) a' w')=>wpAnyU_seq hsel hs hn hQ hdone hK ks (listed.setIfInBounds k true) a' w' (inv.set hr' hkn) (fun q hq=>getD_set_true (hsub q hq)) hB' hS' h';rw[List.length_cons,←Nat.add_assoc];by_cases hw:worldly o=true
  ·rw[if_pos hw]at hf
   have hone:Region.ready md ops listed=[k]:=by simpa using hf
   unfold wpSeq at h;rw[if_pos hw]at h;refine⟨fun h1=>(by rw[hone]at h1;cases h1),fun i hi=> ?_⟩;rw[hone]at hi;obtain rfl:i=k:=by simpa using hi
   refine⟨hkn,?_⟩;unfold wpOp;simp only[h0];rcases h with ⟨hg,h⟩|⟨hg,h⟩
   ·rw[if_pos hg]
    have hop:wpOp P ops Q i (fun a' w'=>S w'∧wpSeq P ops Q S R (ks.map fun k=>ops.getD k default) a' w') a w:=by unfold wpOp;simp only[h0];rw[if_pos hg];exact .inl h
    have:=wpOp_mono (fun a' w' h'=>(⟨h'.1,ih a' w' h'.1 h'.2⟩:S w'∧_)) hop;unfold wpOp at this;simp only[h0]at this;rw[if_pos hg]at this;exact this
   ·rw[if_neg (by rw[hg];simp)]
    exact⟨hS,ih _ _ hS h⟩
  ·rw[if_neg hw]at hf
   unfold wpSeq at h;rw[if_neg hw]at h;obtain⟨v,hy,h⟩:=h;exact wpAnyU_first h0 (Region.noSelect_spec hsel) hs hkn (fun c a w=>hQ c a o.dst v w) hdone (g+ks.length) listed a w inv hsub (Region.free_spec h0 hf) hr' hy hS (ih _ _ hS h)
theorem wpOp_of_seq {k:Nat}{o:Oper}{R:Act→World→Prop}{a:Act}{w:World}(h0:ops[k]? =some o)(hw:worldly o=true)(hS:S w)(h:wpSeq P ops Q S R [o] a w):wpOp P ops Q k (fun a' w'=>S w'∧R a' w') a w:=by
 unfold wpSeq at h;rw[if_pos hw]at h;unfold wpOp;simp only[h0];rcases h with ⟨hg,h⟩|⟨hg,h⟩
 ·rw[if_pos hg]
  exact .inl (Oper.wp_mono (fun a' w' h'=>⟨h'.1,h'.2⟩) h)
 ·rw[if_neg (by rw[hg];simp)]
  exact⟨hS,h⟩
theorem wpAnyU_plan {f0 n:Nat}{l0:Array Bool}{F:Array Bool→Bool}{R:Act→World→Prop}{L:Array Bool→Act→World→Prop}(hsel:Region.noSelect ops=true)(hs:waitL md ops f0 n l0=true)(hn:n≤ops.size)
 (hQ:∀c a d v w,Q (.panic c) (Act.put a d v) w→Q (.panic c) a w) (hdone:∀listed a w,L listed a w→∀j∈Region.ready md ops listed,n≤j)
 (hL:∀listed a w,HeadInv md ops n listed→(Region.ready md ops listed).all (fun j=>decide (n≤j))=true→F listed=true→R a w→L listed a w):
 ∀(p:Plan) (listed:Array Bool) (a:Act) (w:World),HeadInv md ops n listed→(∀ i,l0.getD i false=true→listed.getD i false=true)→
 lexPlan md ops F n p listed=true→S w→wpPlan P ops Q S (fun k=>ops.getD k default) R p a w→wpAnyW P md ops Q S n L p.len listed a w
 | .seq ks,listed,a,w,inv,hsub,hB,hS,h=>by
   have:=wpAnyU_seq (g:=0) (R:=R) hsel hs hn hQ hdone (fun listed' a' w' inv' _ hF _ hR=>by
    simp only[Bool.and_eq_true]at hF;exact hL listed' a' w' inv' hF.1 hF.2 hR) ks listed a w inv hsub hB hS h
   rwa[Nat.zero_add]at this
 | .fork ks k1 p1 k2 p2,listed,a,w,inv,hsub,hB,hS,h=>by
   refine wpAnyU_seq (g:=p1.len+1) hsel hs hn hQ hdone (fun listed' a' w' inv' hsub' hF hS' hR=> ?_) ks listed a w inv hsub hB hS h;simp only[Bool.and_eq_true,decide_eq_true_eq]at hF;obtain⟨⟨⟨⟨⟨⟨⟨h1,h2⟩,hr⟩,hl⟩,hw1⟩,hw2⟩,hp1⟩,hp2⟩:=hF;obtain⟨o1,e1⟩:∃o,ops[k1]? =some o:=⟨ops[k1],by simp[show k1<ops.size by omega]⟩;obtain⟨o2,e2⟩:∃o,ops[k2]? =some o:=⟨ops[k2],by simp[show k2<ops.size by omega]⟩;simp only[e1]at hw1;simp only[e2]at hw2;have he1:ops.getD k1 default=o1:=by simp[Array.getD_eq_getD_getElem?,e1]
   have he2:ops.getD k2 default=o2:=by simp[Array.getD_eq_getD_getElem?,e2]
   dsimp only at hR;rw[he1,he2]at hR;refine⟨by rw[hr];simp,fun i hi=> ?_⟩;rw[hr]at hi;simp only[List.mem_cons,List.not_mem_nil,or_false]at hi;rcases hi with rfl|rfl
   ·exact⟨h1,wpOp_mono (fun a2 w2 h2'=>⟨h2'.1,wpAnyU_plan hsel hs hn hQ hdone hL p1 _ a2 w2 (inv'.set (by rw[hr];simp) h1) (fun q hq=>getD_set_true (hsub' q hq)) hp1 h2'.1 h2'.2⟩) (wpOp_of_seq e1 hw1 hS' hR.1)⟩
   ·rw[hl]
    exact⟨h2,wpOp_mono (fun a2 w2 h2'=>⟨h2'.1,wpAnyU_plan hsel hs hn hQ hdone hL p2 _ a2 w2 (inv'.set (by rw[hr];simp) h2) (fun q hq=>getD_set_true (hsub' q hq)) hp2 h2'.1 h2'.2⟩) (wpOp_of_seq e2 hw2 hS' hR.2)⟩
def textB4 (ops:Array Oper)(f0 n:Nat)(ks0:List Nat)(p:Plan):Bool:=
 Region.noSelect ops&&decide (n≤ops.size)&&decide (ks0.length+p.len=n)&&
  preB .any ops n (fun l0=>waitL .any ops f0 n l0&&lexPlan .any ops (fun l2=>Region.seqB .any ops (ops.size-n) n l2) n p l0) ks0 (Array.replicate ops.size false)
theorem wp_region_plan {id:Nat}{a:Act}{w:World}{l:List Oper}(f0 n:Nat)(ks0:List Nat)(p:Plan)(S:World→Prop)(hm:P.follows .mixedOrders=true)(hB:textB4 l.toArray f0 n ks0 p=true)
 (hQ:∀c a d v w,Q (.panic c) (Act.put a d v) w→Q (.panic c) a w)
 (h:wpSeq P l.toArray Q (fun _=>True) (fun a' w'=>S w'∧wpPlan P l.toArray Q S (fun k=>l.getD k default) (fun a' w'=>wpList P l.toArray Q (l.drop n) a' w') p a' w') (ks0.map fun k=>l.getD k default) a w.drew):(Code.region id l.toArray true).wp P Q a w:=by
 unfold textB4 at hB;simp only[Bool.and_eq_true,decide_eq_true_eq]at hB;obtain⟨⟨⟨hsel,hn⟩,hks⟩,hpre⟩:=hB;have hdl:(l.drop n).length=l.toArray.size-n:=by simp
 have inv0:HeadInv .any l.toArray n (Array.replicate l.toArray.size false):=
  ⟨by simp,fun j oj _ hl=>(by rw[getD_replicate_false]at hl;cases hl),fun t _ ht=>getD_in (by simpa using ht) (getD_replicate_false _ _)⟩
 have hop:(fun k=>l.toArray.getD k default)=fun k=>l.getD k default:=by
  funext k;simp[Array.getD_eq_getD_getElem?]
 refine wp_region_any hm ?_
 have:=wpAny_pre (md:= .any) (n:=n) (g:=p.len+(l.toArray.size-n)) (F:=fun l0=>waitL .any l.toArray f0 n l0&&lexPlan .any l.toArray (fun l2=>Region.seqB .any l.toArray (l.toArray.size-n) n l2) n p l0)
  (R:=fun a' w'=>S w'∧wpPlan P l.toArray Q S (fun k=>l.getD k default) (fun a' w'=>wpList P l.toArray Q (l.drop n) a' w') p a' w') hsel hQ (fun listed a' w' inv hF hR=>by
    simp only[Bool.and_eq_true]at hF
    have H2:=wpAnyU_plan (P:=P) (Q:=Q) (S:=S) (md:= .any) (f0:=f0) (n:=n) (l0:=listed) (F:=fun l2=>Region.seqB .any l.toArray (l.toArray.size-n) n l2) (R:=fun a' w'=>wpList P l.toArray Q (l.drop n) a' w')
     (L:=fun listed' a' w'=>(Region.ready .any l.toArray listed').all (fun j=>decide (n≤j))=true∧Region.seqB .any l.toArray (l.toArray.size-n) n listed'=true∧wpList P l.toArray Q (l.drop n) a' w')
     hsel hF.1 hn hQ (fun listed' a' w' hL j hj=>by simpa using List.all_eq_true.1 hL.1 j hj) (fun listed' a' w' _ h1 h2 h3=>⟨h1,h2,h3⟩) p listed a' w' inv (fun _ h=>h) hF.2 hR.1 (by rw[hop];exact hR.2)
    exact wpAny_of_headW (Q:=Q) (g:=l.toArray.size-n) (fun listed a' w' hL=>by
     have:=wpAny_of_seq (md:= .any) (Q':=Q) (l.drop n) n listed a' w' (fun j=>by simp[List.getElem?_drop]) (by rw[hdl];exact hL.2.1) hL.2.2;rwa[hdl]at this) _ _ _ _ H2) ks0 _ a w.drew inv0 hpre (by
      have:(ks0.map fun k=>l.toArray.getD k default)=ks0.map fun k=>l.getD k default:=by rw[hop]
      rw[this];exact h)
 rw[show p.len+(l.toArray.size-n)+ks0.length=l.toArray.size by omega]at this;exact this
end
def letP (s:Ses)(c:Cmd):Int×Ses:=if isD s.obs c.name=true then(7,s)else if usedB s.obs c.name=true then(15,s)else giveP s ⟨c.name,[],c.g,[]⟩
theorem RetDeed.from {b:Nat}{c:Cmd}{r:Int×Ses}{w w1 w':World}{e:Ending}(h:RetDeed b c r w1 e w')(hB:Below w.heap.size w w1):RetDeed b c r w e w':=⟨h.1,fun k=>(h.2.1 k).mono hB.size,grown_tr (Below.toGrown hB _) h.2.2⟩
theorem s_let (s:Ses)(c:Cmd)(b:Nat)(w:World)(hE:Ed w b s c)(hs:SortedN s.obs)(hn:s.obs.length≤32)(hp:s.past.length≤64):
 Calls Tryz.prog 93 #[.pointer (some ⟨b,0,none⟩)] w (RetDeed b c (letP s c) w):=by
 have HE:=hid hE;have hbl:=hE.lt;obtain⟨oa,oc,pa,pc,fa,fc,ea,ec,va,vc,hb,ho,_,_,he,_⟩:=hE;have HB:=hid hb;have HO:=hid ho;have HEE:=hid he;have HS:=hid hs;have HZ:Hid (letP s c=if isD s.obs c.name=true then(7,s)else if usedB s.obs c.name=true then(15,s)else giveP s ⟨c.name,[],c.g,[]⟩):=rfl;generalize letP s c=z at*
 have HDV:=hid (fun W (h:Below w.heap.size w W)=>s_divisor s.obs (.slice oa s.obs.length oc) c.name W (ho.unmask.below h));clear hb ho he hs;go_enter Tryz.func93,Tryz.ntmps93;go_upto_region 1 with fail;have x0:=HB.out.cell 0;have x4:=HB.out.cell 4;simp only[xG,xH,xI]at x0 x4;go_cut [4] (fun s4 W2=>s4= .bool (isD s.obs c.name)∧Below w.heap.size w W2)
 case first=>
  let S:World→Prop:=fun w'=>Below w.heap.size w w'
  (refine wp_region_plan 2 16 [0,1,2,3,5,6,7,8] (.fork [4,9] 10 (.seq [11,12,13,14,15]) 14 (.seq [10,11,12,13,15])) S (by kernel_rfl) (by kernel_rfl) (by intro _ _ d _ _ h;cases d<;>exact h) ?_;simp only[wpPlan,xA,xB,xC,xD,xE,xF]);(repeat ((refine' wpSeq_take rfl _ (by rfl) ?_ ?_;rotate_left;focus(intro w' hS;(try dsimp only at hS);skip;go_simp;(first|done|with_reducible rfl));(try go_frame));(try go_frame)));refine wpSeq_nil ⟨Below.drew (Below.refl _ _),?_⟩;(repeat ((refine' wpSeq_take rfl _ (by rfl) ?_ ?_;rotate_left;focus(intro w' hS;(try dsimp only at hS);have q0:w'.cell? ⟨b,0,none⟩=some (.slice oa s.obs.length oc):=(Below.cell hS (p:=⟨b,0,none⟩) hbl).trans x0;have q4:w'.cell? ⟨b,4,none⟩=some (.string (str c.name)):=(Below.cell hS (p:=⟨b,4,none⟩) hbl).trans x4;go_simp;(first|done|with_reducible rfl));(try go_frame));(try go_frame)))
  refine wpSeq_nil ⟨?_,?_⟩
  ·(refine wpSeq_call rfl (by rfl) (fun K hK=> ?_);go_simp;refine(HDV.out _ (Below.drew (Below.refl _ _))).mono ?_;rintro e w1 ⟨v,rfl,⟨_,_,rfl,⟨_,_,rfl,_⟩,⟨_,_,rfl,_⟩⟩,hB1⟩;refine hK _ _ (up (Below.drew (Below.refl _ _)) hB1) ?_;clear hK K;(try go_frame))
   refine wpSeq_nil ?_;have HB1:Hid (Below w.heap.size w w1):=up (Below.drew (Below.refl _ _)) hB1;(repeat ((refine' wpSeq_take rfl _ (by rfl) ?_ ?_;rotate_left;focus(intro w' hS;(try dsimp only at hS);skip;go_simp;(first|done|with_reducible rfl));(try go_frame));(try go_frame)));have hs1:=HB1.out.size;(refine wpSeq_call rfl (by rfl) (fun K hK=> ?_);go_simp;refine hK _ _ (HB1.out.alloc hs1 _) ?_;clear hK K;(try go_frame));(refine wpSeq_call rfl (by rfl) (fun K hK=> ?_);go_simp;refine hK _ _ (HB1.out.alloc hs1 _) ?_;clear hK K;(try go_frame));refine wpSeq_nil ?_;go_wp2_with fail;go_meet;exact⟨rfl,HB1.out.alloc hs1 _⟩
  ·(refine wpSeq_call rfl (by rfl) (fun K hK=> ?_);go_simp;refine hK _ _ ((Below.drew (Below.refl _ _)).alloc (Nat.le_refl _) _) ?_;clear hK K;(try go_frame))
   have hZ:Below w.heap.size w (w.alloc (.cells #[.string ⟨#[]⟩,.string ⟨#[]⟩,.int .i64 0,.slice none 0 0,.slice none 0 0] 67)).drew:=Below.drew (by go_grown);have HBK:Hid (Blk (w.alloc (.cells #[.string ⟨#[]⟩,.string ⟨#[]⟩,.int .i64 0,.slice none 0 0,.slice none 0 0] 67)).drew w.heap.size #[.string ⟨#[]⟩,.string ⟨#[]⟩,.int .i64 0,.slice none 0 0,.slice none 0 0] 67):=Blk.drew (Blk.new _ _ _);have HZ1:=hid hZ;clear hZ;(refine wpSeq_call rfl (by rfl) (fun K hK=> ?_);go_simp;refine(HDV.out _ HZ1.out).mono ?_;rintro e w1 ⟨v,rfl,⟨_,_,rfl,⟨_,_,rfl,_⟩,⟨_,_,rfl,_⟩⟩,hB1⟩;refine hK _ _ (up HZ1.out hB1) ?_;clear hK K;(try go_frame))
   have HB1:Hid (Below w.heap.size w w1):=up HZ1.out hB1;have HK1:=hid (HBK.out.below hB1);have lk:=HK1.out.lt;have k0:=HK1.out.cell 0;have k1:=HK1.out.cell 1;have k2:=HK1.out.cell 2;have k3:=HK1.out.cell 3;have k4:=HK1.out.cell 4;have g0:=HK1.out.frozen 0;have g1:=HK1.out.frozen 1;have g2:=HK1.out.frozen 2;have g3:=HK1.out.frozen 3;have g4:=HK1.out.frozen 4;simp only[xG,xH,xI]at k0 k1 k2 k3 k4;(repeat ((refine' wpSeq_take rfl _ (by rfl) ?_ ?_;rotate_left;focus(intro w' hS;(try dsimp only at hS);skip;go_simp;(first|done|with_reducible rfl));(try go_frame));(try go_frame)));(refine wpSeq_call rfl (by rfl) (fun K hK=> ?_);go_simp;refine hK _ _ (below5 HB1.out (Nat.le_refl _) _ _ _ _ _) ?_;clear hK K;(try go_frame))
   refine wpSeq_nil ?_;go_wp2_with fail;go_meet;exact⟨rfl,below5 HB1.out (Nat.le_refl _) _ _ _ _ _⟩
 case rest=>
  obtain⟨rfl,hB2⟩:=hcut;obtain⟨W2,rfl⟩:∃W:World,W=wc:=⟨_,rfl⟩;have HB2:=hid hB2;clear hB2 HDV x0 x4;have HE2:=hid (HE.out.below HB2.out);have HUS:=hid (s_used s c b c.name W2 HE2.out);have HBK:=hid (HB.out.below HB2.out);have lb:=HBK.out.lt;have x4:=HBK.out.cell 4;simp only[xG,xH,xI]at x4;generalize isD s.obs c.name=d at*
  generalize usedB s.obs c.name=us at*
  cases d with
  |true=>
   have hz:Hid (z=(7,s)):=by show _=_;rw[HZ.out];rfl
   go_wp2_with fail
   go_ret
   exact⟨by rw[hz.out];rfl,fun h=>(by rw[hz.out]at h;cases h),Below.toGrown HB2.out _⟩
  |false=>
  have HZ2:Hid (z=if us=true then(15,s)else giveP s ⟨c.name,[],c.g,[]⟩):=by show _=_;rw[HZ.out];rfl
  go_wp2_with fail;refine HUS.out.mono ?_;rintro e w3 ⟨rfl,hB3⟩;have HB3:=hid (up HB2.out hB3);have HE3:=hid (HE2.out.below hB3);have HBK3:=hid (HBK.out.below hB3);clear hB3 x4 lb HBK HE2 HB2 HUS;dsimp only;cases us with
  |true=>
   have hz:Hid (z=(15,s)):=by show _=_;rw[HZ2.out];rfl
   go_wp2_with fail
   go_ret
   exact⟨by rw[hz.out];rfl,fun h=>(by rw[hz.out]at h;cases h),Below.toGrown HB3.out _⟩
  |false=>
  have hz:Hid (z=giveP s ⟨c.name,[],c.g,[]⟩):=by show _=_;rw[HZ2.out];rfl
  clear HZ HZ2;have lb:=HBK3.out.lt;have x4:=HBK3.out.cell 4;have x8:=HBK3.out.cell 8;have x9:=HBK3.out.cell 9;simp only[xG,xH,xI]at x4 x8 x9;go_upto_region 6 with fail;let S:World→Prop:=fun w'=>Below w3.heap.size w3 w'
  (refine wp_region_pre 2 11 [0,1,2,3,4,6,7,8,9] [5,10] S (by kernel_rfl) (by kernel_rfl) (by intro _ _ d _ _ h;cases d<;>exact h) ?_;simp only[xA,xB,xC,xD,xE,xF]);(repeat ((refine' wpSeq_take rfl _ (by rfl) ?_ ?_;rotate_left;focus(intro w' hS;(try dsimp only at hS);skip;go_simp;(first|done|with_reducible rfl));(try go_frame));(try go_frame)));refine wpSeq_nil ⟨Below.drew (Below.refl _ _),?_⟩;(repeat ((refine' wpSeq_take rfl _ (by rfl) ?_ ?_;rotate_left;focus(intro w' hS;(try dsimp only at hS);have q4:w'.cell? ⟨b,4,none⟩=some (.string (str c.name)):=(Below.cell hS (p:=⟨b,4,none⟩) lb).trans x4;have q8:w'.cell? ⟨b,8,none⟩=some (.int .i64 c.g.n):=(Below.cell hS (p:=⟨b,8,none⟩) lb).trans x8;have q9:w'.cell? ⟨b,9,none⟩=some (.slice ea c.g.es.length ec):=(Below.cell hS (p:=⟨b,9,none⟩) lb).trans x9;go_simp;(first|done|with_reducible rfl));(try go_frame));(try go_frame)))
  refine wpSeq_nil ?_;clear S;have HB4:Hid (Below w.heap.size w w3.drew):=up HB3.out (Below.drew (Below.refl _ _));have HCP:=hid (s_copied ⟨c.name,[],c.g,[]⟩ (.agg #[.string (str c.name),.string ⟨#[]⟩,.int .i64 c.g.n,.slice ea c.g.es.length ec,.slice none 0 0]) w3.drew ⟨_,_,rfl,HEE.out.unmask.below HB4.out,IntsR.nil _⟩);generalize w3.drew=w4 at*
  go_wp2_with fail;refine HCP.out.mono ?_;rintro e w5 ⟨ev,dv,rfl,he5,hd5,fe5,fd5,hB5⟩;have hl4:b<w4.heap.size:=Nat.lt_of_lt_of_le hbl HB4.out.size;have HG:=hid (s_give s c b ⟨c.name,[],c.g,[]⟩ _ w5 ((HE.out.below HB4.out).below hB5) ⟨ev,dv,rfl,he5.mask fun e=>(by have:=fe5 _ e;omega),hd5.mask fun e=>(by have:=fd5 _ e;omega)⟩ HS.out hn hp);have HB5:=hid (up HB4.out hB5);clear he5 hd5 fe5 fd5 hB5 HCP;dsimp only;go_wp2_with fail;refine HG.out.mono ?_;rintro e w6 ⟨rfl,hE6,hg6⟩;have H6:=hid hE6;have HG6:=hid hg6;clear hE6 hg6;dsimp only;go_wp2_with fail;go_ret;exact⟨by rw[hz.out];rfl,fun h=>(by rw[hz.out]at h ⊢;exact(H6.out h).mono HB5.out.size),grown_tr (Below.toGrown HB5.out _) HG6.out⟩
def holdP (s:Ses)(c:Cmd)(on:List UInt8)(d:List Int):Int×Ses:=if isG s.obs c.name=true then(7,s)else giveP s ⟨c.name,on,⟨0,[]⟩,d⟩
theorem s_hold (s:Ses)(c:Cmd)(b:Nat)(on:List UInt8)(d:List Int)(dv:Value)(w:World)(hE:Ed w b s c)(hd:IntsR w dv d)(hs:SortedN s.obs)(hn:s.obs.length≤32)(hp:s.past.length≤64):
 Calls Tryz.prog 143 #[.pointer (some ⟨b,0,none⟩),.string (str on),dv] w (RetDeed b c (holdP s c on d) w):=by
 obtain⟨da,dc,rfl,_⟩:=id hd;have HE:=hid hE;have hbl:=hE.lt;obtain⟨oa,oc,pa,pc,fa,fc,ea,ec,va,vc,hb,ho,_⟩:=hE;have HB:=hid hb;have HD:=hid hd;have HS:=hid hs;have HZ:Hid (holdP s c on d=if isG s.obs c.name=true then(7,s)else giveP s ⟨c.name,on,⟨0,[]⟩,d⟩):=rfl;generalize holdP s c on d=z at*
 have HFG:=hid (fun W (h:Below w.heap.size w W)=>s_figure s.obs (.slice oa s.obs.length oc) c.name W (ho.unmask.below h));clear hb ho hs hd;go_enter Tryz.func143,Tryz.ntmps143;go_upto_region 1 with fail;have x0:=HB.out.cell 0;have x4:=HB.out.cell 4;simp only[xG,xH,xI]at x0 x4;go_cut [8] (fun s8 W2=>s8= .bool (isG s.obs c.name)∧Below w.heap.size w W2)
 case first=>
  let S:World→Prop:=fun w'=>Below w.heap.size w w'
  (refine wp_region_plan 2 16 [0,1,2,3,5,6,7,8] (.fork [4,9] 10 (.seq [11,12,13,14,15]) 14 (.seq [10,11,12,13,15])) S (by kernel_rfl) (by kernel_rfl) (by intro _ _ d _ _ h;cases d<;>exact h) ?_;simp only[wpPlan,xA,xB,xC,xD,xE,xF]);(repeat ((refine' wpSeq_take rfl _ (by rfl) ?_ ?_;rotate_left;focus(intro w' hS;(try dsimp only at hS);skip;go_simp;(first|done|with_reducible rfl));(try go_frame));(try go_frame)));refine wpSeq_nil ⟨Below.drew (Below.refl _ _),?_⟩;(repeat ((refine' wpSeq_take rfl _ (by rfl) ?_ ?_;rotate_left;focus(intro w' hS;(try dsimp only at hS);have q0:w'.cell? ⟨b,0,none⟩=some (.slice oa s.obs.length oc):=(Below.cell hS (p:=⟨b,0,none⟩) hbl).trans x0;have q4:w'.cell? ⟨b,4,none⟩=some (.string (str c.name)):=(Below.cell hS (p:=⟨b,4,none⟩) hbl).trans x4;go_simp;(first|done|with_reducible rfl));(try go_frame));(try go_frame)))
  refine wpSeq_nil ⟨?_,?_⟩
  ·(refine wpSeq_call rfl (by rfl) (fun K hK=> ?_);go_simp;refine(HFG.out _ (Below.drew (Below.refl _ _))).mono ?_;rintro e w1 ⟨ev,rfl,⟨_,_,rfl,_⟩,hB1⟩;refine hK _ _ (up (Below.drew (Below.refl _ _)) hB1) ?_;clear hK K;(try go_frame))
   refine wpSeq_nil ?_;have HB1:Hid (Below w.heap.size w w1):=up (Below.drew (Below.refl _ _)) hB1;(repeat ((refine' wpSeq_take rfl _ (by rfl) ?_ ?_;rotate_left;focus(intro w' hS;(try dsimp only at hS);skip;go_simp;(first|done|with_reducible rfl));(try go_frame));(try go_frame)));have hs1:=HB1.out.size;(refine wpSeq_call rfl (by rfl) (fun K hK=> ?_);go_simp;refine hK _ _ (HB1.out.alloc hs1 _) ?_;clear hK K;(try go_frame));(refine wpSeq_call rfl (by rfl) (fun K hK=> ?_);go_simp;refine hK _ _ (HB1.out.alloc hs1 _) ?_;clear hK K;(try go_frame));refine wpSeq_nil ?_;go_wp2_with fail;go_meet;exact⟨rfl,HB1.out.alloc hs1 _⟩
  ·(refine wpSeq_call rfl (by rfl) (fun K hK=> ?_);go_simp;refine hK _ _ ((Below.drew (Below.refl _ _)).alloc (Nat.le_refl _) _) ?_;clear hK K;(try go_frame))
   have hZ:Below w.heap.size w (w.alloc (.cells #[.int .i64 0,.slice none 0 0] 28)).drew:=Below.drew (by go_grown);have HBK:Hid (Blk (w.alloc (.cells #[.int .i64 0,.slice none 0 0] 28)).drew w.heap.size #[.int .i64 0,.slice none 0 0] 28):=Blk.drew (Blk.new _ _ _);have HZ1:=hid hZ;clear hZ;(refine wpSeq_call rfl (by rfl) (fun K hK=> ?_);go_simp;refine(HFG.out _ HZ1.out).mono ?_;rintro e w1 ⟨ev,rfl,⟨_,_,rfl,_⟩,hB1⟩;refine hK _ _ (up HZ1.out hB1) ?_;clear hK K;(try go_frame));have HB1:Hid (Below w.heap.size w w1):=up HZ1.out hB1;have HK1:=hid (HBK.out.below hB1);have lk:=HK1.out.lt;have k0:=HK1.out.cell 0
   have k1:=HK1.out.cell 1;have g0:=HK1.out.frozen 0;have g1:=HK1.out.frozen 1;simp only[xG,xH,xI]at k0 k1;(repeat ((refine' wpSeq_take rfl _ (by rfl) ?_ ?_;rotate_left;focus(intro w' hS;(try dsimp only at hS);skip;go_simp;(first|done|with_reducible rfl));(try go_frame));(try go_frame)));(refine wpSeq_call rfl (by rfl) (fun K hK=> ?_);go_simp;refine hK _ _ (below2 HB1.out (Nat.le_refl _) _ _) ?_;clear hK K;(try go_frame));refine wpSeq_nil ?_;go_wp2_with fail;go_meet;exact⟨rfl,below2 HB1.out (Nat.le_refl _) _ _⟩
 case rest=>
  obtain⟨rfl,hB2⟩:=hcut;obtain⟨W2,rfl⟩:∃W:World,W=wc:=⟨_,rfl⟩;have HB2:=hid hB2;clear hB2 HFG x0 x4;have HBK:=hid (HB.out.below HB2.out);have lb:=HBK.out.lt;have x4:=HBK.out.cell 4;simp only[xG,xH,xI]at x4;generalize isG s.obs c.name=ig at*
  cases ig with
  |true=>
   have hz:Hid (z=(7,s)):=by show _=_;rw[HZ.out];rfl
   go_wp2_with fail
   go_ret
   exact⟨by rw[hz.out];rfl,fun h=>(by rw[hz.out]at h;cases h),Below.toGrown HB2.out _⟩
  |false=>
  have hz:Hid (z=giveP s ⟨c.name,on,⟨0,[]⟩,d⟩):=by show _=_;rw[HZ.out];rfl
  clear HZ;go_upto_region 4 with fail;let S:World→Prop:=fun w'=>Below W2.heap.size W2 w'
  (refine wp_region_pre 2 9 [0,1,2,3,4,6,7] [5,8] S (by kernel_rfl) (by kernel_rfl) (by intro _ _ d _ _ h;cases d<;>exact h) ?_;simp only[xA,xB,xC,xD,xE,xF]);(repeat ((refine' wpSeq_take rfl _ (by rfl) ?_ ?_;rotate_left;focus(intro w' hS;(try dsimp only at hS);skip;go_simp;(first|done|with_reducible rfl));(try go_frame));(try go_frame)));refine wpSeq_nil ⟨Below.drew (Below.refl _ _),?_⟩;(repeat ((refine' wpSeq_take rfl _ (by rfl) ?_ ?_;rotate_left;focus(intro w' hS;(try dsimp only at hS);have q4:w'.cell? ⟨b,4,none⟩=some (.string (str c.name)):=(Below.cell hS (p:=⟨b,4,none⟩) lb).trans x4;go_simp;(first|done|with_reducible rfl));(try go_frame));(try go_frame)))
  have HB4:Hid (Below w.heap.size w W2.drew):=up HB2.out (Below.drew (Below.refl _ _));(refine wpSeq_call rfl (by rfl) (fun K hK=> ?_);go_simp;refine(c_CloneD d _ _ (HD.out.below HB4.out)).mono ?_;rintro e w5 ⟨v5,rfl,h5,o5,hB5⟩;refine hK _ _ (up (Below.drew (Below.refl _ _)) hB5) ?_;clear hK K;(try go_frame));refine wpSeq_nil ?_;clear S;have hl4:b<W2.drew.heap.size:=Nat.lt_of_lt_of_le hbl HB4.out.size;obtain⟨ca,cc,rfl,_⟩:=id h5;have HG:=hid (s_give s c b ⟨c.name,on,⟨0,[]⟩,d⟩ (.agg #[.string (str c.name),.string (str on),.int .i64 0,.slice none 0 0,.slice ca d.length cc]) w5 ((HE.out.below HB4.out).below hB5) ⟨_,_,rfl,EdgesR.nil _,h5.mask fun e=>(by have:=o5 _ e;omega)⟩ HS.out hn hp)
  have HB5:=hid (up HB4.out hB5);clear h5 o5 hB5;go_wp2_with fail;refine HG.out.mono ?_;rintro e w6 ⟨rfl,hE6,hg6⟩;have H6:=hid hE6;have HG6:=hid hg6;clear hE6 hg6;dsimp only;go_wp2_with fail;go_ret;exact⟨by rw[hz.out];rfl,fun h=>(by rw[hz.out]at h ⊢;exact(H6.out h).mono HB5.out.size),grown_tr (Below.toGrown HB5.out _) HG6.out⟩
def putP (s:Ses)(c:Cmd):Int×Ses:=if isG s.obs c.on=false then(6,s)else if dErr c.vals (figB s.obs c.on).1.n≠0 then(dErr c.vals (figB s.obs c.on).1.n,s)else holdP s c c.on c.vals
theorem s_put (s:Ses)(c:Cmd)(b:Nat)(w:World)(hE:Ed w b s c)(hs:SortedN s.obs)(hn:s.obs.length≤32)(hp:s.past.length≤64):
 Calls Tryz.prog 94 #[.pointer (some ⟨b,0,none⟩)] w (RetDeed b c (putP s c) w):=by
 have HE:=hid hE;have hbl:=hE.lt;obtain⟨oa,oc,pa,pc,fa,fc,ea,ec,va,vc,hb,ho,_,_,_,hv⟩:=hE;have HB:=hid hb;have HV:=hid hv;have HS:=hid hs;have HZ:Hid (putP s c=if isG s.obs c.on=false then(6,s)else if dErr c.vals (figB s.obs c.on).1.n≠0 then(dErr c.vals (figB s.obs c.on).1.n,s)else holdP s c c.on c.vals):=rfl;generalize putP s c=z at*
 have HFG:=hid (fun W (h:Below w.heap.size w W)=>s_figure s.obs (.slice oa s.obs.length oc) c.on W (ho.unmask.below h));clear hb ho hs hv;go_enter Tryz.func94,Tryz.ntmps94;go_upto_region 1 with fail;have x0:=HB.out.cell 0;have x5:=HB.out.cell 5;simp only[xG,xH,xI]at x0 x5;go_cut [3,4] (fun s3 s4 W2=>∃A ev,s3= .pointer (some ⟨A,0,none⟩)∧s4= .bool (isG s.obs c.on)∧Blk W2 A #[.int .i64 (figB s.obs c.on).1.n,ev] 28∧w.heap.size≤A∧Below w.heap.size w W2)
 case first=>
  let S:World→Prop:=fun w'=>Below w.heap.size w w'
  (refine wp_region_plan 2 16 [0,1,2,3,5,6,7,8] (.fork [4,9] 10 (.seq [11,12,13,14,15]) 14 (.seq [10,11,12,13,15])) S (by kernel_rfl) (by kernel_rfl) (by intro _ _ d _ _ h;cases d<;>exact h) ?_;simp only[wpPlan,xA,xB,xC,xD,xE,xF]);(repeat ((refine' wpSeq_take rfl _ (by rfl) ?_ ?_;rotate_left;focus(intro w' hS;(try dsimp only at hS);skip;go_simp;(first|done|with_reducible rfl));(try go_frame));(try go_frame)));refine wpSeq_nil ⟨Below.drew (Below.refl _ _),?_⟩;(repeat ((refine' wpSeq_take rfl _ (by rfl) ?_ ?_;rotate_left;focus(intro w' hS;(try dsimp only at hS);have q0:w'.cell? ⟨b,0,none⟩=some (.slice oa s.obs.length oc):=(Below.cell hS (p:=⟨b,0,none⟩) hbl).trans x0;have q5:w'.cell? ⟨b,5,none⟩=some (.string (str c.on)):=(Below.cell hS (p:=⟨b,5,none⟩) hbl).trans x5;go_simp;(first|done|with_reducible rfl));(try go_frame));(try go_frame)))
  refine wpSeq_nil ⟨?_,?_⟩
  ·(refine wpSeq_call rfl (by rfl) (fun K hK=> ?_);go_simp;refine(HFG.out _ (Below.drew (Below.refl _ _))).mono ?_;rintro e w1 ⟨ev,rfl,⟨_,_,rfl,_⟩,hB1⟩;refine hK _ _ (up (Below.drew (Below.refl _ _)) hB1) ?_;clear hK K;(try go_frame))
   refine wpSeq_nil ?_;have HB1:Hid (Below w.heap.size w w1):=up (Below.drew (Below.refl _ _)) hB1;(repeat ((refine' wpSeq_take rfl _ (by rfl) ?_ ?_;rotate_left;focus(intro w' hS;(try dsimp only at hS);skip;go_simp;(first|done|with_reducible rfl));(try go_frame));(try go_frame)));have hs1:=HB1.out.size;(refine wpSeq_call rfl (by rfl) (fun K hK=> ?_);go_simp;refine hK _ _ (HB1.out.alloc hs1 _) ?_;clear hK K;(try go_frame));(refine wpSeq_call rfl (by rfl) (fun K hK=> ?_);go_simp;refine hK _ _ (HB1.out.alloc hs1 _) ?_;clear hK K;(try go_frame));refine wpSeq_nil ?_;go_wp2_with fail;go_meet;exact⟨_,_,rfl,rfl,Blk.new _ _ _,hs1,HB1.out.alloc hs1 _⟩
  ·(refine wpSeq_call rfl (by rfl) (fun K hK=> ?_);go_simp;refine hK _ _ ((Below.drew (Below.refl _ _)).alloc (Nat.le_refl _) _) ?_;clear hK K;(try go_frame))
   have hZ:Below w.heap.size w (w.alloc (.cells #[.int .i64 0,.slice none 0 0] 28)).drew:=Below.drew (by go_grown);have HBK:Hid (Blk (w.alloc (.cells #[.int .i64 0,.slice none 0 0] 28)).drew w.heap.size #[.int .i64 0,.slice none 0 0] 28):=Blk.drew (Blk.new _ _ _);have HZ1:=hid hZ;clear hZ;(refine wpSeq_call rfl (by rfl) (fun K hK=> ?_);go_simp;refine(HFG.out _ HZ1.out).mono ?_;rintro e w1 ⟨ev,rfl,⟨_,_,rfl,_⟩,hB1⟩;refine hK _ _ (up HZ1.out hB1) ?_;clear hK K;(try go_frame));have HB1:Hid (Below w.heap.size w w1):=up HZ1.out hB1;have HK1:=hid (HBK.out.below hB1);have lk:=HK1.out.lt;have k0:=HK1.out.cell 0
   have k1:=HK1.out.cell 1;have g0:=HK1.out.frozen 0;have g1:=HK1.out.frozen 1;simp only[xG,xH,xI]at k0 k1;(repeat ((refine' wpSeq_take rfl _ (by rfl) ?_ ?_;rotate_left;focus(intro w' hS;(try dsimp only at hS);skip;go_simp;(first|done|with_reducible rfl));(try go_frame));(try go_frame)));(refine wpSeq_call rfl (by rfl) (fun K hK=> ?_);go_simp;refine hK _ _ (below2 HB1.out (Nat.le_refl _) _ _) ?_;clear hK K;(try go_frame));refine wpSeq_nil ?_;go_wp2_with fail;go_meet;exact⟨_,_,rfl,rfl,blk2 HK1.out _ _,Nat.le_refl _,below2 HB1.out (Nat.le_refl _) _ _⟩
 case rest=>
  obtain⟨A,ev,rfl,rfl,hA,hAw,hB2⟩:=hcut;obtain⟨W2,rfl⟩:∃W:World,W=wc:=⟨_,rfl⟩;have HB2:=hid hB2;have HA:=hid hA;clear hB2 HFG x0 x5;have HBK:=hid (HB.out.below HB2.out);have HVK:=hid (HV.out.below (mask_below HB2.out)).unmask;generalize (figB s.obs c.on).1.n=n at*
  generalize isG s.obs c.on=ig at*
  cases ig with
  |false=>
   have hz:Hid (z=(6,s)):=by show _=_;rw[HZ.out];rfl
   go_wp2_with fail
   go_ret
   exact⟨by rw[hz.out];rfl,fun h=>(by rw[hz.out]at h;cases h),Below.toGrown HB2.out _⟩
  |true=>
  have HZ2:Hid (z=if dErr c.vals n≠0 then(dErr c.vals n,s)else holdP s c c.on c.vals):=by show _=_;rw[HZ.out];rfl
  clear HZ;go_upto_region 4 with fail;have lb:=HBK.out.lt;have x10:=HBK.out.cell 10;simp only[xG,xH,xI]at x10;have la:=HA.out.lt;have k0:=HA.out.cell 0;simp only[xG,xH,xI]at k0;let S:World→Prop:=fun w'=>Below W2.heap.size W2 w'
  (refine wp_region_pre 2 7 [0,1,2,3,5] [4,6] S (by kernel_rfl) (by kernel_rfl) (by intro _ _ d _ _ h;cases d<;>exact h) ?_;simp only[xA,xB,xC,xD,xE,xF]);(repeat ((refine' wpSeq_take rfl _ (by rfl) ?_ ?_;rotate_left;focus(intro w' hS;(try dsimp only at hS);skip;go_simp;(first|done|with_reducible rfl));(try go_frame));(try go_frame)));refine wpSeq_nil ⟨Below.drew (Below.refl _ _),?_⟩;(repeat ((refine' wpSeq_take rfl _ (by rfl) ?_ ?_;rotate_left;focus(intro w' hS;(try dsimp only at hS);have q10:w'.cell? ⟨b,10,none⟩=some (.slice va c.vals.length vc):=(Below.cell hS (p:=⟨b,10,none⟩) lb).trans x10;have q0:w'.cell? ⟨A,0,none⟩=some (.int .i64 n):=(Below.cell hS (p:=⟨A,0,none⟩) la).trans k0;go_simp;(first|done|with_reducible rfl));(try go_frame));(try go_frame)))
  have HB4:Hid (Below w.heap.size w W2.drew):=up HB2.out (Below.drew (Below.refl _ _));have HV4:=hid (HVK.out.below (Below.drew (Below.refl _ _)));refine wpSeq_nil ?_;clear S x10 k0 lb la;go_wp2_with fail;refine(p_chips c.vals _ n _ HV4.out).mono ?_;rintro e w3 ⟨rfl,rfl⟩;dsimp only;have HBK4:=hid (HB.out.below HB4.out);generalize hd0:dErr c.vals n=d0 at*
  by_cases hd:d0=0
  ·have hz:Hid (z=holdP s c c.on c.vals):=by show _=_;rw[HZ2.out,if_neg (by simp[hd])]
   clear HZ2;subst hd;go_upto_region 7 with fail;have lb:=HBK4.out.lt;have x5:=HBK4.out.cell 5;have x10:=HBK4.out.cell 10;simp only[xG,xH,xI]at x5 x10;let S:World→Prop:=fun w'=>Below W2.drew.heap.size W2.drew w'
   (refine wp_region_pre 2 11 [0,1,2,3,4,6,7,8,9] [5,10] S (by kernel_rfl) (by kernel_rfl) (by intro _ _ d _ _ h;cases d<;>exact h) ?_;simp only[xA,xB,xC,xD,xE,xF]);(repeat ((refine' wpSeq_take rfl _ (by rfl) ?_ ?_;rotate_left;focus(intro w' hS;(try dsimp only at hS);skip;go_simp;(first|done|with_reducible rfl));(try go_frame));(try go_frame)));refine wpSeq_nil ⟨Below.drew (Below.refl _ _),?_⟩;(repeat ((refine' wpSeq_take rfl _ (by rfl) ?_ ?_;rotate_left;focus(intro w' hS;(try dsimp only at hS);have q5:w'.cell? ⟨b,5,none⟩=some (.string (str c.on)):=(Below.cell hS (p:=⟨b,5,none⟩) lb).trans x5;have q10:w'.cell? ⟨b,10,none⟩=some (.slice va c.vals.length vc):=(Below.cell hS (p:=⟨b,10,none⟩) lb).trans x10;go_simp;(first|done|with_reducible rfl));(try go_frame));(try go_frame)))
   refine wpSeq_nil ?_;have HB5:Hid (Below w.heap.size w W2.drew.drew):=up HB4.out (Below.drew (Below.refl _ _));clear S;have HH:=hid (s_hold s c b c.on c.vals _ W2.drew.drew (HE.out.below HB5.out) (HV.out.unmask.below HB5.out) HS.out hn hp);go_wp2_with fail;refine HH.out.mono ?_;rintro e w6 ⟨rfl,hE6,hg6⟩;have H6:=hid hE6;have HG6:=hid hg6;clear hE6 hg6;dsimp only;go_wp2_with fail;go_ret;exact⟨by rw[hz.out];rfl,fun h=>(by rw[hz.out]at h ⊢;exact(H6.out h).mono HB5.out.size),grown_tr (Below.toGrown HB5.out _) HG6.out⟩
  ·have hz:Hid (z=(d0,s)):=by show _=_;rw[HZ2.out,if_pos hd]
   go_wp2_with fail;go_ret;exact⟨by rw[hz.out];rfl,fun h=>(by rw[hz.out]at h;exact absurd h hd),Below.toGrown HB4.out _⟩
end Go.Proofs.YtclgllmipcbagaaGreatDoor
