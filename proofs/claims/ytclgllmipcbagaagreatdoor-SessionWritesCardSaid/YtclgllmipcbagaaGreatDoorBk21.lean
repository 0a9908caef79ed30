/-
  Parts of the proof: XT7 XT8 XTa XSb
-/
import Derived.Test.YtclgllmipcbagaaGreatDoorBk20
import Derived.Test.YtclgllmipcbagaaGreatDoorBk14
namespace Go.Proofs.YtclgllmipcbagaaGreatDoor
open Go.RowKit
set_option linter.unusedVariables false
set_option linter.unusedSimpArgs false
set_option maxRecDepth 100000
set_option maxHeartbeats 16000000
def changeP (s:Ses)(c:Cmd)(cf:G→List Int→Int×List Int):Int×Ses:=
 if isD s.obs c.name=false then(6,s)else
 if (cf (figB s.obs (divB s.obs c.name).on).1 (divB s.obs c.name).d).1≠0 then((cf (figB s.obs (divB s.obs c.name).on).1 (divB s.obs c.name).d).1,s)
 else holdP s c (divB s.obs c.name).on (cf (figB s.obs (divB s.obs c.name).on).1 (divB s.obs c.name).d).2
def RetTwo (r:Int×List Int)(w:World)(e:Ending)(w':World):Prop:=∃v,e= .returned (.tuple #[v,.int .i64 r.1])∧(r.1=0→IntsR w' v r.2)∧Below w.heap.size w w'
def RetThree (r:Int×List Int)(w:World)(e:Ending)(w':World):Prop:=∃v u,e= .returned (.tuple #[v,u,.int .i64 r.1])∧(r.1=0→IntsR w' v r.2)∧Below w.heap.size w w'
theorem RetDivW.form {l:List Ob}{n:List UInt8}{w0 w w':World}{e:Ending}(h:RetDivW l n w0 w e w'):∃ea ec da dc,e= .returned (.tuple #[.agg #[.string (str (divB l n).name),.string (str (divB l n).on),.int .i64 (divB l n).g.n,.slice ea (divB l n).g.es.length ec,.slice da (divB l n).d.length dc],.bool (isD l n)])∧
 IntsR w0 (.slice da (divB l n).d.length dc) (divB l n).d∧Below w.heap.size w w':=by
 obtain⟨v,rfl,⟨ev,dv,rfl,he,hd⟩,hB⟩:=h;obtain⟨ea,ec,rfl,_⟩:=id he;obtain⟨da,dc,rfl,_⟩:=id hd;exact⟨ea,ec,da,dc,rfl,hd,hB⟩
theorem RetFigW.form {l:List Ob}{n:List UInt8}{w0 w w':World}{e:Ending}(h:RetFigW l n w0 w e w'):∃ea ec,e= .returned (.tuple #[.agg #[.int .i64 (figB l n).1.n,.slice ea (figB l n).1.es.length ec],.bool (isG l n)])∧
 EdgesR w0 (.slice ea (figB l n).1.es.length ec) (figB l n).1.es∧Below w.heap.size w w':=by
 obtain⟨ev,rfl,he,hB⟩:=h;obtain⟨ea,ec,rfl,_⟩:=id he;exact⟨ea,ec,rfl,he,hB⟩
theorem s_change (s:Ses)(c:Cmd)(b:Nat)(cf:G→List Int→Int×List Int)(w:World)(hE:Ed w b s c)(hs:SortedN s.obs)(hn:s.obs.length≤32)(hp:s.past.length≤64)
 (hF:c.kind=2→∀(W:World) (g:G) (gv dv vv:Value) (d:List Int),GrR W gv g→IntsR W dv d→IntsR W vv c.vals→Calls Tryz.prog 144 #[gv,dv,vv] W (RetTwo (cf g d) W))
 (hS:c.kind=3→∀(W:World) (g:G) (gv dv:Value) (d:List Int),GrR W gv g→IntsR W dv d→Calls Tryz.prog 145 #[gv,.int .i64 c.q,dv] W (RetThree (cf g d) W))
 (hR:c.kind≠2→c.kind≠3→∀(W:World) (g:G) (gv dv:Value) (d:List Int),GrR W gv g→IntsR W dv d→Calls Tryz.prog 146 #[gv,.int .i64 c.q,dv] W (RetThree (cf g d) W)):
 Calls Tryz.prog 95 #[.pointer (some ⟨b,0,none⟩)] w (RetDeed b c (changeP s c cf) w):=by
 have HE:=hid hE;have HF:=hid hF;have HSt:=hid hS;have HRe:=hid hR;clear hF hS hR;have hbl:=hE.lt;obtain⟨oa,oc,pa,pc,fa,fc,ea,ec,va,vc,hb,ho,_,_,_,hv⟩:=hE;have HB:=hid hb;have HV:=hid hv;have HS:=hid hs
 have HZ:Hid (changeP s c cf=if isD s.obs c.name=false then(6,s)else if (cf (figB s.obs (divB s.obs c.name).on).1 (divB s.obs c.name).d).1≠0 then((cf (figB s.obs (divB s.obs c.name).on).1 (divB s.obs c.name).d).1,s)
  else holdP s c (divB s.obs c.name).on (cf (figB s.obs (divB s.obs c.name).on).1 (divB s.obs c.name).d).2):=rfl
 generalize changeP s c cf=z at*
 have HDV:=hid (fun W (h:Below w.heap.size w W)=>s_divisorW s.obs (.slice oa s.obs.length oc) c.name w W ho.unmask h);have HFG:=hid (fun n W (h:Below w.heap.size w W)=>s_figureW s.obs (.slice oa s.obs.length oc) n w W ho.unmask h);clear hb ho hs hv;go_enter Tryz.func95,Tryz.ntmps95;go_upto_region 1 with fail;have x0:=HB.out.cell 0;have x4:=HB.out.cell 4;simp only[xG,xH,xI]at x0 x4
 go_cut [3,4] (fun s3 s4 W2=>∃A ea ec da dc,s3= .pointer (some ⟨A,0,none⟩)∧s4= .bool (isD s.obs c.name)∧
  Blk W2 A #[.string (str (divB s.obs c.name).name),.string (str (divB s.obs c.name).on),.int .i64 (divB s.obs c.name).g.n,.slice ea (divB s.obs c.name).g.es.length ec,.slice da (divB s.obs c.name).d.length dc] 67∧
  IntsR w (.slice da (divB s.obs c.name).d.length dc) (divB s.obs c.name).d∧w.heap.size≤A∧Below w.heap.size w W2)
 case first=>
  let S:World→Prop:=fun w'=>Below w.heap.size w w'
  (refine wp_region_plan 2 16 [0,1,2,3,5,6,7,8] (.fork [4,9] 10 (.seq [11,12,13,14,15]) 14 (.seq [10,11,12,13,15])) S (by kernel_rfl) (by kernel_rfl) (by intro _ _ d _ _ h;cases d<;>exact h) ?_;simp only[wpPlan,xA,xB,xC,xD,xE,xF]);(repeat ((refine' wpSeq_take rfl _ (by rfl) ?_ ?_;rotate_left;focus(intro w' hS;(try dsimp only at hS);skip;go_simp;(first|done|with_reducible rfl));(try go_frame));(try go_frame)));refine wpSeq_nil ⟨Below.drew (Below.refl _ _),?_⟩;(repeat ((refine' wpSeq_take rfl _ (by rfl) ?_ ?_;rotate_left;focus(intro w' hS;(try dsimp only at hS);have q0:w'.cell? ⟨b,0,none⟩=some (.slice oa s.obs.length oc):=(Below.cell hS (p:=⟨b,0,none⟩) hbl).trans x0;have q4:w'.cell? ⟨b,4,none⟩=some (.string (str c.name)):=(Below.cell hS (p:=⟨b,4,none⟩) hbl).trans x4;go_simp;(first|done|with_reducible rfl));(try go_frame));(try go_frame)))
  refine wpSeq_nil ⟨?_,?_⟩
  ·(refine wpSeq_call rfl (by rfl) (fun K hK=> ?_);go_simp;refine((HDV.out _ (Below.drew (Below.refl _ _))).mono fun _ _ h=>h.form).mono ?_;rintro e w1 ⟨ea,ec,da,dc,rfl,hd1,hB1⟩;refine hK _ _ (up (Below.drew (Below.refl _ _)) hB1) ?_;clear hK K;(try go_frame))
   refine wpSeq_nil ?_;have HB1:Hid (Below w.heap.size w w1):=up (Below.drew (Below.refl _ _)) hB1;have HD1:=hid hd1;clear hB1 hd1;(repeat ((refine' wpSeq_take rfl _ (by rfl) ?_ ?_;rotate_left;focus(intro w' hS;(try dsimp only at hS);skip;go_simp;(first|done|with_reducible rfl));(try go_frame));(try go_frame)));have hs1:=HB1.out.size;(refine wpSeq_call rfl (by rfl) (fun K hK=> ?_);go_simp;refine hK _ _ (HB1.out.alloc hs1 _) ?_;clear hK K;(try go_frame));(refine wpSeq_call rfl (by rfl) (fun K hK=> ?_);go_simp;refine hK _ _ (HB1.out.alloc hs1 _) ?_;clear hK K;(try go_frame));refine wpSeq_nil ?_;go_wp2_with fail
   go_meet;exact⟨_,ea,ec,da,dc,rfl,rfl,Blk.new _ _ _,HD1.out,hs1,HB1.out.alloc hs1 _⟩
  ·(refine wpSeq_call rfl (by rfl) (fun K hK=> ?_);go_simp;refine hK _ _ ((Below.drew (Below.refl _ _)).alloc (Nat.le_refl _) _) ?_;clear hK K;(try go_frame))
   have hZ:Below w.heap.size w (w.alloc (.cells #[.string ⟨#[]⟩,.string ⟨#[]⟩,.int .i64 0,.slice none 0 0,.slice none 0 0] 67)).drew:=Below.drew (by go_grown);have HBK:Hid (Blk (w.alloc (.cells #[.string ⟨#[]⟩,.string ⟨#[]⟩,.int .i64 0,.slice none 0 0,.slice none 0 0] 67)).drew w.heap.size #[.string ⟨#[]⟩,.string ⟨#[]⟩,.int .i64 0,.slice none 0 0,.slice none 0 0] 67):=Blk.drew (Blk.new _ _ _);have HZ1:=hid hZ;clear hZ;(refine wpSeq_call rfl (by rfl) (fun K hK=> ?_);go_simp;refine((HDV.out _ HZ1.out).mono fun _ _ h=>h.form).mono ?_;rintro e w1 ⟨ea,ec,da,dc,rfl,hd1,hB1⟩;refine hK _ _ (up HZ1.out hB1) ?_;clear hK K;(try go_frame))
   have HB1:Hid (Below w.heap.size w w1):=up HZ1.out hB1;have HK1:=hid (HBK.out.below hB1);have HD1:=hid hd1;clear hB1 hd1;have lk:=HK1.out.lt;have k0:=HK1.out.cell 0;have k1:=HK1.out.cell 1;have k2:=HK1.out.cell 2;have k3:=HK1.out.cell 3;have k4:=HK1.out.cell 4;have g0:=HK1.out.frozen 0;have g1:=HK1.out.frozen 1;have g2:=HK1.out.frozen 2;have g3:=HK1.out.frozen 3;have g4:=HK1.out.frozen 4;simp only[xG,xH,xI]at k0 k1 k2 k3 k4;(repeat ((refine' wpSeq_take rfl _ (by rfl) ?_ ?_;rotate_left;focus(intro w' hS;(try dsimp only at hS);skip;go_simp;(first|done|with_reducible rfl));(try go_frame));(try go_frame)))
   (refine wpSeq_call rfl (by rfl) (fun K hK=> ?_);go_simp;refine hK _ _ (below5 HB1.out (Nat.le_refl _) _ _ _ _ _) ?_;clear hK K;(try go_frame));refine wpSeq_nil ?_;go_wp2_with fail;go_meet;exact⟨_,ea,ec,da,dc,rfl,rfl,blk5 HK1.out _ _ _ _ _,HD1.out,Nat.le_refl _,below5 HB1.out (Nat.le_refl _) _ _ _ _ _⟩
 case rest=>
  obtain⟨A,ea,ec,da,dc,rfl,rfl,hA,hd2,hAw,hB2⟩:=hcut;obtain⟨W2,rfl⟩:∃W:World,W=wc:=⟨_,rfl⟩;have HB2:=hid hB2;have HA:=hid hA;have HD:=hid hd2;have HAW:=hid hAw;clear hB2 HDV x0 x4 hA hd2;have HBK:=hid (HB.out.below HB2.out);generalize divB s.obs c.name=y at*
  generalize isD s.obs c.name=isd at*
  cases isd with
  |false=>
   have hz:Hid (z=(6,s)):=by show _=_;rw[HZ.out];rfl
   go_wp2_with fail
   go_ret
   exact⟨by rw[hz.out];rfl,fun h=>(by rw[hz.out]at h;cases h),Below.toGrown HB2.out _⟩
  |true=>
  have HZ2:Hid (z=if (cf (figB s.obs y.on).1 y.d).1≠0 then((cf (figB s.obs y.on).1 y.d).1,s)else holdP s c y.on (cf (figB s.obs y.on).1 y.d).2):=by show _=_;rw[HZ.out];rfl
  clear HZ;go_upto_region 4 with fail;have lb:=HBK.out.lt;have x0:=HBK.out.cell 0;have la:=HA.out.lt;have k1:=HA.out.cell 1;simp only[xG,xH,xI]at x0 k1;go_cut [5,6] (fun s5 s6 W4=>∃Q qa qc,s5= .pointer (some ⟨Q,0,none⟩)∧s6= .bool (isG s.obs y.on)∧Blk W4 Q #[.int .i64 (figB s.obs y.on).1.n,.slice qa (figB s.obs y.on).1.es.length qc] 28∧EdgesR w (.slice qa (figB s.obs y.on).1.es.length qc) (figB s.obs y.on).1.es∧W2.heap.size≤Q∧Below W2.heap.size W2 W4)
  case first=>
   let S:World→Prop:=fun w'=>Below W2.heap.size W2 w'
   (refine wp_region_plan 2 13 [0,1,2,3,5] (.fork [4,6] 7 (.seq [8,9,10,11,12]) 11 (.seq [7,8,9,10,12])) S (by kernel_rfl) (by kernel_rfl) (by intro _ _ d _ _ h;cases d<;>exact h) ?_;simp only[wpPlan,xA,xB,xC,xD,xE,xF]);(repeat ((refine' wpSeq_take rfl _ (by rfl) ?_ ?_;rotate_left;focus(intro w' hS;(try dsimp only at hS);skip;go_simp;(first|done|with_reducible rfl));(try go_frame));(try go_frame)));refine wpSeq_nil ⟨Below.drew (Below.refl _ _),?_⟩;(repeat ((refine' wpSeq_take rfl _ (by rfl) ?_ ?_;rotate_left;focus(intro w' hS;(try dsimp only at hS);have q0:w'.cell? ⟨b,0,none⟩=some (.slice oa s.obs.length oc):=(Below.cell hS (p:=⟨b,0,none⟩) lb).trans x0;have q1:w'.cell? ⟨A,1,none⟩=some (.string (str y.on)):=(Below.cell hS (p:=⟨A,1,none⟩) la).trans k1;go_simp;(first|done|with_reducible rfl));(try go_frame));(try go_frame)))
   refine wpSeq_nil ⟨?_,?_⟩
   ·(refine wpSeq_call rfl (by rfl) (fun K hK=> ?_);go_simp;refine((HFG.out _ _ (up HB2.out (Below.drew (Below.refl _ _)))).mono fun _ _ h=>h.form).mono ?_;rintro e w1 ⟨qa,qc,rfl,hq1,hB1⟩;refine hK _ _ (up (Below.drew (Below.refl _ _)) hB1) ?_;clear hK K;(try go_frame))
    refine wpSeq_nil ?_;have HB1:Hid (Below W2.heap.size W2 w1):=up (Below.drew (Below.refl _ _)) hB1;have HQ1:=hid hq1;clear hB1 hq1;(repeat ((refine' wpSeq_take rfl _ (by rfl) ?_ ?_;rotate_left;focus(intro w' hS;(try dsimp only at hS);skip;go_simp;(first|done|with_reducible rfl));(try go_frame));(try go_frame)));have hs1:=HB1.out.size;(refine wpSeq_call rfl (by rfl) (fun K hK=> ?_);go_simp;refine hK _ _ (HB1.out.alloc hs1 _) ?_;clear hK K;(try go_frame));(refine wpSeq_call rfl (by rfl) (fun K hK=> ?_);go_simp;refine hK _ _ (HB1.out.alloc hs1 _) ?_;clear hK K;(try go_frame));refine wpSeq_nil ?_
    go_wp2_with fail;go_meet;exact⟨_,qa,qc,rfl,rfl,Blk.new _ _ _,HQ1.out,hs1,HB1.out.alloc hs1 _⟩
   ·(refine wpSeq_call rfl (by rfl) (fun K hK=> ?_);go_simp;refine hK _ _ ((Below.drew (Below.refl _ _)).alloc (Nat.le_refl _) _) ?_;clear hK K;(try go_frame))
    have hZ:Below W2.heap.size W2 (W2.alloc (.cells #[.int .i64 0,.slice none 0 0] 28)).drew:=Below.drew (by go_grown);have HBK4:Hid (Blk (W2.alloc (.cells #[.int .i64 0,.slice none 0 0] 28)).drew W2.heap.size #[.int .i64 0,.slice none 0 0] 28):=Blk.drew (Blk.new _ _ _);have HZ1:=hid hZ;clear hZ;(refine wpSeq_call rfl (by rfl) (fun K hK=> ?_);go_simp;refine((HFG.out _ _ (up HB2.out HZ1.out)).mono fun _ _ h=>h.form).mono ?_;rintro e w1 ⟨qa,qc,rfl,hq1,hB1⟩;refine hK _ _ (up HZ1.out hB1) ?_;clear hK K;(try go_frame));have HB1:Hid (Below W2.heap.size W2 w1):=up HZ1.out hB1;have HK1:=hid (HBK4.out.below hB1)
    have HQ1:=hid hq1;clear hB1 hq1;have lk:=HK1.out.lt;have j0:=HK1.out.cell 0;have j1:=HK1.out.cell 1;have g0:=HK1.out.frozen 0;have g1:=HK1.out.frozen 1;simp only[xG,xH,xI]at j0 j1;(repeat ((refine' wpSeq_take rfl _ (by rfl) ?_ ?_;rotate_left;focus(intro w' hS;(try dsimp only at hS);skip;go_simp;(first|done|with_reducible rfl));(try go_frame));(try go_frame)));(refine wpSeq_call rfl (by rfl) (fun K hK=> ?_);go_simp;refine hK _ _ (below2 HB1.out (Nat.le_refl _) _ _) ?_;clear hK K;(try go_frame));refine wpSeq_nil ?_;go_wp2_with fail;go_meet;exact⟨_,qa,qc,rfl,rfl,blk2 HK1.out _ _,HQ1.out,Nat.le_refl _,below2 HB1.out (Nat.le_refl _) _ _⟩
  case rest=>
   obtain⟨Q,qa,qc,rfl,rfl,hQ,hq,hQW,hB4⟩:=hcut;obtain⟨W4,rfl⟩:∃W:World,W=wc:=⟨_,rfl⟩;have HB4:=hid (up HB2.out hB4);have HA4:=hid (HA.out.below hB4);have HQ:=hid hQ;have HQE:=hid hq;clear hB4 hQ hq HFG x0 k1 la lb HBK HA;have HBK4:=hid (HB.out.below HB4.out);generalize isG s.obs y.on=igy at*
   generalize (figB s.obs y.on).1=g at*
   have HFi:=hid (fun (h:c.kind=2) W gv dv vv a1 a2 a3=>HF.out h W g gv dv vv y.d a1 a2 a3);have HSi:=hid (fun (h:c.kind=3) W gv dv a1 a2=>HSt.out h W g gv dv y.d a1 a2);have HRi:=hid (fun (h:c.kind≠2) (h':c.kind≠3) W gv dv a1 a2=>HRe.out h h' W g gv dv y.d a1 a2);clear HF HSt HRe;generalize cf g y.d=r at*
   clear HB;have lb:=HBK4.out.lt;have x3:=HBK4.out.cell 3;have x7:=HBK4.out.cell 7;have x10:=HBK4.out.cell 10;have la:=HA4.out.lt;have j1:=HA4.out.cell 1;have j4:=HA4.out.cell 4;have lq:=HQ.out.lt;have k0:=HQ.out.cell 0;have k1:=HQ.out.cell 1;simp only[xG,xH,xI]at x3 x7 x10 j1 j4 k0 k1;clear HBK4 HQ;generalize hck:c.kind=ck at*
   have HCK:=hid hck;clear hck;by_cases hk2:ck=2
   ·subst hk2
    go_upto_region 10 with fail;let S:World→Prop:=fun w'=>Below W4.heap.size W4 w'
    (refine wp_region_pre 2 13 [1,3,4,5,6] [0,2,7,8,9,10,11,12] S (by kernel_rfl) (by kernel_rfl) (by intro _ _ d _ _ h;cases d<;>exact h) ?_;simp only[xA,xB,xC,xD,xE,xF]);(repeat ((refine' wpSeq_take rfl _ (by rfl) ?_ ?_;rotate_left;focus(intro w' hS;(try dsimp only at hS);skip;go_simp;(first|done|with_reducible rfl));(try go_frame));(try go_frame)));refine wpSeq_nil ⟨Below.drew (Below.refl _ _),?_⟩;(repeat ((refine' wpSeq_take rfl _ (by rfl) ?_ ?_;rotate_left;focus(intro w' hS;(try dsimp only at hS);have q0:w'.cell? ⟨Q,0,none⟩=some (.int .i64 g.n):=(Below.cell hS (p:=⟨Q,0,none⟩) lq).trans k0;have q1:w'.cell? ⟨Q,1,none⟩=some (.slice qa g.es.length qc):=(Below.cell hS (p:=⟨Q,1,none⟩) lq).trans k1;have q4:w'.cell? ⟨A,4,none⟩=some (.slice da y.d.length dc):=(Below.cell hS (p:=⟨A,4,none⟩) la).trans j4;have q10:w'.cell? ⟨b,10,none⟩=some (.slice va c.vals.length vc):=(Below.cell hS (p:=⟨b,10,none⟩) lb).trans x10;go_simp;(first|done|with_reducible rfl));(try go_frame));(try go_frame)))
    have HB5:Hid (Below w.heap.size w W4.drew):=up HB4.out (Below.drew (Below.refl _ _));(refine wpSeq_call rfl (by rfl) (fun K hK=> ?_);go_simp;refine(HFi.out rfl _ _ _ _ ⟨_,rfl,HQE.out.below HB5.out⟩ (HD.out.below HB5.out) (HV.out.unmask.below HB5.out)).mono ?_;rintro e w1 ⟨v,rfl,hv6,hB6⟩;refine hK _ _ (up (Below.drew (Below.refl _ _)) hB6) ?_;clear hK K;(try go_frame));have HV5:=hid hv6;have HB6:Hid (Below W4.heap.size W4 w1):=up (Below.drew (Below.refl _ _)) hB6;clear hv6 hB6;(repeat ((refine' wpSeq_take rfl _ (by rfl) ?_ ?_;rotate_left;focus(intro w' hS;(try dsimp only at hS);skip;go_simp;(first|done|with_reducible rfl));(try go_frame));(try go_frame)))
    refine wpSeq_nil ?_;clear S;clear HB5;have HA5:=hid (HA4.out.below HB6.out);have HB5:=hid (up HB4.out HB6.out);clear x3 x7 x10 j1 j4 lq k0 k1 la lb HFi HSi HRi HB6;by_cases hr:r.1=0
    ·have hz:Hid (z=holdP s c y.on r.2):=by show _=_;rw[HZ2.out,if_neg (by simp[hr])]
     have hH:=hid (s_hold s c b y.on r.2 v w1 (HE.out.below HB5.out) (HV5.out hr) HS.out hn hp);clear HZ2 HV5;have la:=HA5.out.lt;have j1:=HA5.out.cell 1;simp only[xG,xH,xI]at j1;generalize r.2=r2 at*
     generalize r.1=r1 at*
     subst hr;go_wp2_with fail;refine hH.out.mono ?_;rintro e w6 ⟨rfl,hE6,hg6⟩;have H6:=hid hE6;have HG6:=hid hg6;clear hE6 hg6;dsimp only;go_wp2_with fail;go_ret;exact⟨by rw[hz.out];rfl,fun h=>(by rw[hz.out]at h ⊢;exact(H6.out h).mono HB5.out.size),grown_tr (Below.toGrown HB5.out _) HG6.out⟩
    ·have hz:Hid (z=(r.1,s)):=by show _=_;rw[HZ2.out,if_pos hr]
     clear HZ2 HV5;generalize r.1=r1 at*
     go_wp2_with fail;go_ret;exact⟨by rw[hz.out];rfl,fun h=>(by rw[hz.out]at h;exact absurd h hr),Below.toGrown HB5.out _⟩
   ·by_cases hk3:ck=3
    ·subst hk3
     go_upto_region 12 with fail;let S:World→Prop:=fun w'=>Below W4.heap.size W4 w'
     (refine wp_region_pre 2 14 [1,2,3,4,6] [0,5,7,8,9,10,11,12,13] S (by kernel_rfl) (by kernel_rfl) (by intro _ _ d _ _ h;cases d<;>exact h) ?_;simp only[xA,xB,xC,xD,xE,xF]);(repeat ((refine' wpSeq_take rfl _ (by rfl) ?_ ?_;rotate_left;focus(intro w' hS;(try dsimp only at hS);skip;go_simp;(first|done|with_reducible rfl));(try go_frame));(try go_frame)));refine wpSeq_nil ⟨Below.drew (Below.refl _ _),?_⟩;(repeat ((refine' wpSeq_take rfl _ (by rfl) ?_ ?_;rotate_left;focus(intro w' hS;(try dsimp only at hS);have q0:w'.cell? ⟨Q,0,none⟩=some (.int .i64 g.n):=(Below.cell hS (p:=⟨Q,0,none⟩) lq).trans k0;have q1:w'.cell? ⟨Q,1,none⟩=some (.slice qa g.es.length qc):=(Below.cell hS (p:=⟨Q,1,none⟩) lq).trans k1;have q4:w'.cell? ⟨A,4,none⟩=some (.slice da y.d.length dc):=(Below.cell hS (p:=⟨A,4,none⟩) la).trans j4;have q7:w'.cell? ⟨b,7,none⟩=some (.int .i64 c.q):=(Below.cell hS (p:=⟨b,7,none⟩) lb).trans x7;go_simp;(first|done|with_reducible rfl));(try go_frame));(try go_frame)))
     have HB5:Hid (Below w.heap.size w W4.drew):=up HB4.out (Below.drew (Below.refl _ _));(refine wpSeq_call rfl (by rfl) (fun K hK=> ?_);go_simp;refine(HSi.out rfl _ _ _ ⟨_,rfl,HQE.out.below HB5.out⟩ (HD.out.below HB5.out)).mono ?_;rintro e w1 ⟨v,u,rfl,hv6,hB6⟩;refine hK _ _ (up (Below.drew (Below.refl _ _)) hB6) ?_;clear hK K;(try go_frame));have HV5:=hid hv6;have HB6:Hid (Below W4.heap.size W4 w1):=up (Below.drew (Below.refl _ _)) hB6;clear hv6 hB6;(repeat ((refine' wpSeq_take rfl _ (by rfl) ?_ ?_;rotate_left;focus(intro w' hS;(try dsimp only at hS);skip;go_simp;(first|done|with_reducible rfl));(try go_frame));(try go_frame)))
     refine wpSeq_nil ?_;clear S;clear HB5;have HA5:=hid (HA4.out.below HB6.out);have HB5:=hid (up HB4.out HB6.out);clear x3 x7 x10 j1 j4 lq k0 k1 la lb HFi HSi HRi HB6;by_cases hr:r.1=0
     ·have hz:Hid (z=holdP s c y.on r.2):=by show _=_;rw[HZ2.out,if_neg (by simp[hr])]
      have hH:=hid (s_hold s c b y.on r.2 v w1 (HE.out.below HB5.out) (HV5.out hr) HS.out hn hp);clear HZ2 HV5;have la:=HA5.out.lt;have j1:=HA5.out.cell 1;simp only[xG,xH,xI]at j1;generalize r.2=r2 at*
      generalize r.1=r1 at*
      subst hr;go_wp2_with fail;refine hH.out.mono ?_;rintro e w6 ⟨rfl,hE6,hg6⟩;have H6:=hid hE6;have HG6:=hid hg6;clear hE6 hg6;dsimp only;go_wp2_with fail;go_ret;exact⟨by rw[hz.out];rfl,fun h=>(by rw[hz.out]at h ⊢;exact(H6.out h).mono HB5.out.size),grown_tr (Below.toGrown HB5.out _) HG6.out⟩
     ·have hz:Hid (z=(r.1,s)):=by show _=_;rw[HZ2.out,if_pos hr]
      clear HZ2 HV5;generalize r.1=r1 at*
      go_wp2_with fail;go_ret;exact⟨by rw[hz.out];rfl,fun h=>(by rw[hz.out]at h;exact absurd h hr),Below.toGrown HB5.out _⟩
    ·skip
     go_upto_region 8 with fail;let S:World→Prop:=fun w'=>Below W4.heap.size W4 w'
     (refine wp_region_pre 2 14 [1,2,3,4,6] [0,5,7,8,9,10,11,12,13] S (by kernel_rfl) (by kernel_rfl) (by intro _ _ d _ _ h;cases d<;>exact h) ?_;simp only[xA,xB,xC,xD,xE,xF]);(repeat ((refine' wpSeq_take rfl _ (by rfl) ?_ ?_;rotate_left;focus(intro w' hS;(try dsimp only at hS);skip;go_simp;(first|done|with_reducible rfl));(try go_frame));(try go_frame)));refine wpSeq_nil ⟨Below.drew (Below.refl _ _),?_⟩;(repeat ((refine' wpSeq_take rfl _ (by rfl) ?_ ?_;rotate_left;focus(intro w' hS;(try dsimp only at hS);have q0:w'.cell? ⟨Q,0,none⟩=some (.int .i64 g.n):=(Below.cell hS (p:=⟨Q,0,none⟩) lq).trans k0;have q1:w'.cell? ⟨Q,1,none⟩=some (.slice qa g.es.length qc):=(Below.cell hS (p:=⟨Q,1,none⟩) lq).trans k1;have q4:w'.cell? ⟨A,4,none⟩=some (.slice da y.d.length dc):=(Below.cell hS (p:=⟨A,4,none⟩) la).trans j4;have q7:w'.cell? ⟨b,7,none⟩=some (.int .i64 c.q):=(Below.cell hS (p:=⟨b,7,none⟩) lb).trans x7;go_simp;(first|done|with_reducible rfl));(try go_frame));(try go_frame)))
     have HB5:Hid (Below w.heap.size w W4.drew):=up HB4.out (Below.drew (Below.refl _ _));(refine wpSeq_call rfl (by rfl) (fun K hK=> ?_);go_simp;refine(HRi.out hk2 hk3 _ _ _ ⟨_,rfl,HQE.out.below HB5.out⟩ (HD.out.below HB5.out)).mono ?_;rintro e w1 ⟨v,u,rfl,hv6,hB6⟩;refine hK _ _ (up (Below.drew (Below.refl _ _)) hB6) ?_;clear hK K;(try go_frame));have HV5:=hid hv6;have HB6:Hid (Below W4.heap.size W4 w1):=up (Below.drew (Below.refl _ _)) hB6;clear hv6 hB6;(repeat ((refine' wpSeq_take rfl _ (by rfl) ?_ ?_;rotate_left;focus(intro w' hS;(try dsimp only at hS);skip;go_simp;(first|done|with_reducible rfl));(try go_frame));(try go_frame)))
     refine wpSeq_nil ?_;clear S;clear HB5;have HA5:=hid (HA4.out.below HB6.out);have HB5:=hid (up HB4.out HB6.out);clear x3 x7 x10 j1 j4 lq k0 k1 la lb HFi HSi HRi HB6;by_cases hr:r.1=0
     ·have hz:Hid (z=holdP s c y.on r.2):=by show _=_;rw[HZ2.out,if_neg (by simp[hr])]
      have hH:=hid (s_hold s c b y.on r.2 v w1 (HE.out.below HB5.out) (HV5.out hr) HS.out hn hp);clear HZ2 HV5;have la:=HA5.out.lt;have j1:=HA5.out.cell 1;simp only[xG,xH,xI]at j1;generalize r.2=r2 at*
      generalize r.1=r1 at*
      subst hr;go_wp2_with fail;refine hH.out.mono ?_;rintro e w6 ⟨rfl,hE6,hg6⟩;have H6:=hid hE6;have HG6:=hid hg6;clear hE6 hg6;dsimp only;go_wp2_with fail;go_ret;exact⟨by rw[hz.out];rfl,fun h=>(by rw[hz.out]at h ⊢;exact(H6.out h).mono HB5.out.size),grown_tr (Below.toGrown HB5.out _) HG6.out⟩
     ·have hz:Hid (z=(r.1,s)):=by show _=_;rw[HZ2.out,if_pos hr]
      clear HZ2 HV5;generalize r.1=r1 at*
      go_wp2_with fail;go_ret;exact⟨by rw[hz.out];rfl,fun h=>(by rw[hz.out]at h;exact absurd h hr),Below.toGrown HB5.out _⟩
def undoP (s:Ses):Int×Ses:=if s.past.length=0 then(14,s)else(0,⟨s.past[s.past.length-1]?.getD [],s.past.take (s.past.length-1),laterP s.fut s.obs⟩)
def redoP (s:Ses):Int×Ses:=if s.fut.length=0 then(14,s)else(0,⟨s.fut[s.fut.length-1]?.getD [],laterP s.past s.obs,s.fut.take (s.fut.length-1)⟩)
theorem lso_parts {w:World}{b:Nat}{pa:Option Addr}{pc m:Nat}{ls:List (List Ob)}(hb:b<w.heap.size)(h:LsoR (mask b w) (.slice pa ls.length pc) ls)(hm:ls.length=m+1):
 ∃pb off la lc,pa=some ⟨pb,off,none⟩∧pb<w.heap.size∧w.cell? ⟨pb,off+m,none⟩=some (.slice la (ls[m]?.getD []).length lc)∧ObsR (mask b w) (.slice la (ls[m]?.getD []).length lc) (ls[m]?.getD [])∧m+1≤pc∧pc≤9223372036854775807∧
  ∀W,Below w.heap.size w W→Calls Tryz.prog 152 #[.slice pa m pc] W fun e w'=>∃a' c',e= .returned (.slice a' m c')∧LsoR (mask b w') (.slice a' m c') (ls.take m)∧Below W.heap.size W w'∧∀g,(Value.slice a' m c').ownBlock=some g→W.heap.size≤g:=by
 obtain⟨pa',pc',vs,ep,p1,p2,p3,p4,p5,p6⟩:=h;injection ep with ep1 _ ep3
 subst ep1 ep3;have hcu:=p4.unmask;have h1:∀u∈vs,u.oneCell'=true:=by
  intro u hu;obtain⟨k,hk,rfl⟩:=List.getElem_of_mem hu;have:=p6 k (by omega);rw[List.getElem?_eq_getElem hk]at this;obtain⟨_,_,e,_⟩:=this.form;simp only[Option.getD_some]at e;rw[e];rfl
 obtain⟨la,lc,el,_⟩:=(p6 m (by omega)).form;rcases hcu with hcu|⟨pb,off,rfl,hlt,hc⟩
 ·rw[hcu]at p5;simp at p5;omega
 ·refine⟨pb,off,la,lc,rfl,hlt,?_,el▸p6 m (by omega),by omega,p2,fun W hW=> ?_⟩
  ·rw[hc m (by omega),←el,List.getElem?_eq_getElem (by omega)];rfl
  ·have hcw:CellsAt W (some ⟨pb,off,none⟩) (vs.take m):=by
    refine .inr ⟨pb,off,rfl,Nat.lt_of_lt_of_le hlt hW.size,fun i hi=> ?_⟩;have hi':i<m:=by rw[List.length_take]at hi;omega
    rw[hW.cell (p:=⟨pb,off+i,none⟩) hlt,hc i (by omega),List.getElem?_take_of_lt hi']
   refine(c_CloneL _ m pc (vs.take m) W (by rw[List.length_take];omega) (by omega) hcw fun u hu=>h1 u (List.mem_of_mem_take hu)).mono ?_;rintro e w' ⟨v',rfl,hown,hB⟩;obtain⟨ga,gc,rfl,g1,g2,hca⟩:=owns_at hown;have hs:Sub (mask b w) (mask b w'):=(sub_below (up hW hB)).mask b;have hlm:(ls.take m).length=m:=by rw[List.length_take];omega
   refine⟨ga,gc,rfl,⟨ga,gc,vs.take m,by rw[hlm],by omega,by omega,by omega,hca.mask (b:=b) fun n c e=> ?_,by rw[List.length_take,List.length_take];omega,fun k hk=> ?_⟩,hB,fun g e=>(hown.lt g e).1⟩
   ·have e':(Value.slice ga m gc).ownBlock=some b:=by cases ga<;>exact e
    have h3:=(hown.lt b e').1;have:=hW.size;omega
   ·rw[hlm]at hk
    rw[List.getElem?_take_of_lt hk,List.getElem?_take_of_lt hk];exact(p6 k (by omega)).sub hs
theorem s_undo (s:Ses)(c:Cmd)(b:Nat)(w:World)(hE:Ed w b s c)(hn:s.fut.length≤64):
 Calls Tryz.prog 98 #[.pointer (some ⟨b,0,none⟩)] w (RetDeed b c (undoP s) w):=by
 have hbl:=hE.lt;obtain⟨oa,oc,pa,pc,fa,fc,ea,ec,va,vc,hb,ho,hp,hf,he,hv⟩:=hE;have HZ:Hid (undoP s=if s.past.length=0 then(14,s)else(0,⟨s.past[s.past.length-1]?.getD [],s.past.take (s.past.length-1),laterP s.fut s.obs⟩)):=rfl;generalize undoP s=z at*
 by_cases h0:s.past.length=0
 ·have hz:Hid (z=(14,s)):=by show _=_;rw[HZ.out,if_pos h0]
  rw[h0]at hb;have HB:=hid hb;clear hb ho hp hf he hv HZ;go_enter Tryz.func98,Tryz.ntmps98;have x1:=HB.out.cell 1;simp only[xG,xH,xI]at x1;go_wp2_with fail;go_ret;exact⟨by rw[hz.out];rfl,fun h=>(by rw[hz.out]at h;cases h),Below.toGrown (Below.refl _ _) _⟩
 ·obtain⟨m,hm⟩:∃m,s.past.length=m+1:=⟨s.past.length-1,by omega⟩
  have hz:Hid (z=(0,⟨s.past[m]?.getD [],s.past.take m,laterP s.fut s.obs⟩)):=by show _=_;rw[HZ.out,if_neg h0,hm,Nat.add_sub_cancel]
  obtain⟨pb,off,la,lc,rfl,hpb,hlast,hlo,hmc,hpc,hcl⟩:=lso_parts hbl hp hm;obtain⟨fa',fc',vs,ep,p1,p2,p3,p4,p5,p6⟩:=id hf;injection ep with ep1 _ ep3
  subst ep1 ep3;have h1:∀u∈vs,u.oneCell'=true:=by
   intro u hu;obtain⟨k,hk,rfl⟩:=List.getElem_of_mem hu;have:=p6 k (by omega);rw[List.getElem?_eq_getElem hk]at this;obtain⟨_,_,e,_⟩:=this.form;simp only[Option.getD_some]at e;rw[e];rfl
  have HLT:Hid (∀ W,Below w.heap.size w W→Calls Tryz.prog 151 #[.slice fa s.fut.length fc,.slice oa s.obs.length oc] W (RetLater s.fut.length (vs++[Value.slice oa s.obs.length oc]) W)):=fun W h=>s_later fa s.fut.length fc vs oa s.obs.length oc W p5 hn (p4.unmask.below h) h1
  have HRD:Hid (∀ W w' e,Below w.heap.size w W→RetLater s.fut.length (vs++[Value.slice oa s.obs.length oc]) W e w'→∃a' cap',e= .returned (.slice a' (laterP s.fut s.obs).length cap')∧LsoR (mask b w') (.slice a' (laterP s.fut s.obs).length cap') (laterP s.fut s.obs)∧Below W.heap.size W w'∧∀g,(Value.slice a' (laterP s.fut s.obs).length cap').ownBlock=some g→W.heap.size≤g):=fun W w' e h hr=>
   later_reads (Nat.lt_of_lt_of_le hbl h.size) p5 (fun k hk=>(p6 k hk).below (mask_below h)) (ho.below (mask_below h)) hn hr
  have HREST:Hid (∀ w',w.grownBy w' (some b)→ObsR (mask b w') (.slice la (s.past[m]?.getD []).length lc) (s.past[m]?.getD [])∧EdgesR (mask b w') (.slice ea c.g.es.length ec) c.g.es∧IntsR (mask b w') (.slice va c.vals.length vc) c.vals):=fun w' hg=>⟨hlo.later hg,he.later hg,hv.later hg⟩;have HTK:Hid ((s.past.take m).length=m):=by show _=_;rw[List.length_take];omega
  obtain⟨N,hN⟩:∃N,N=s.past.length:=⟨_,rfl⟩;rw[← hN]at hb;have HB:=hid hb;have HCL:=hid hcl;have hpm:(N:Int)-1=(m:Int):=by omega
  have hm1:(m:Int)<(N:Int):=by omega
  have hm0:(0:Int)≤(m:Int):=by omega
  have hmne:¬(N:Int)=0:=by omega
  have hmu:(N:Int)≤9223372036854775807:=by omega
  have hwm:IntKind.i64.wrap (m:Int)=(m:Int):=IntWalk.i64_in _ (by omega);have hmc1:m≤pc:=by omega
  have hmc2:(m:Int)≤(pc:Int):=by omega
  clear hN;clear hb ho hp hf he hv HZ p1 p2 p3 p4 p5 p6 h1 hm hcl hlo h0;go_enter Tryz.func98,Tryz.ntmps98;have x0:=HB.out.cell 0;have x1:=HB.out.cell 1;have x2:=HB.out.cell 2;simp only[xG,xH,xI]at x0 x1 x2;go_upto_region 4 with fail;let S:World→Prop:=fun w'=>Below w.heap.size w w'
  (refine wp_region_pre 2 32 [0,1,2,3,4,5,6,8,9,10,11,14,15,16,17,19,20,23,24,25,26,28,29] [7,12,18,21,22,27,30,13,31] S (by kernel_rfl) (by kernel_rfl) (by intro _ _ d _ _ h;cases d<;>exact h) ?_;simp only[xA,xB,xC,xD,xE,xF]);(repeat ((refine' wpSeq_take rfl _ (by rfl) ?_ ?_;rotate_left;focus(intro w' hS;(try dsimp only at hS);skip;go_simp;(first|done|with_reducible rfl));(try go_frame));(try go_frame)));refine wpSeq_nil ⟨Below.drew (Below.refl _ _),?_⟩;(repeat ((refine' wpSeq_take rfl _ (by rfl) ?_ ?_;rotate_left;focus(intro w' hS;(try dsimp only at hS);have q0:w'.cell? ⟨b,0,none⟩=some (.slice oa s.obs.length oc):=(Below.cell hS (p:=⟨b,0,none⟩) hbl).trans x0;have q1:w'.cell? ⟨b,1,none⟩=some (.slice (some ⟨pb,off,none⟩) N pc):=(Below.cell hS (p:=⟨b,1,none⟩) hbl).trans x1;have q2:w'.cell? ⟨b,2,none⟩=some (.slice fa s.fut.length fc):=(Below.cell hS (p:=⟨b,2,none⟩) hbl).trans x2;have q3:w'.cell? ⟨pb,off+m,none⟩=some (.slice la (s.past[m]?.getD []).length lc):=(Below.cell hS (p:=⟨pb,off+m,none⟩) hpb).trans hlast;go_simp;(first|done|with_reducible rfl));(try go_frame));(try go_frame)))
  refine wpSeq_call rfl (by rfl) (fun K hK=> ?_);go_simp;refine(HLT.out _ (Below.drew (Below.refl _ _))).mono ?_;intro e w1 hr;obtain⟨a1,c1,rfl,hL,hB1,hfr1⟩:=HRD.out _ _ _ (Below.drew (Below.refl _ _)) hr;have HFR1:=hid hfr1;clear hfr1;have hB1':Below w.heap.size w w1:=up (Below.drew (Below.refl _ _)) hB1;refine hK _ _ hB1' ?_;clear hK K hr;(try go_frame);have HL:=hid hL;(refine wpSeq_call rfl (by rfl) (fun K hK=> ?_);go_simp;refine(HCL.out _ hB1').mono ?_;rintro e w2 ⟨a2,c2,rfl,hL2,hB2,hfr2⟩;refine hK _ _ (up hB1' hB2) ?_;clear hK K;(try go_frame));have HFR2:Hid (∀ g,(Value.slice a2 m c2).ownBlock=some g→w.heap.size≤g):=fun g k=>Nat.le_trans hB1'.size (hfr2 g k)
  clear hfr2;refine wpSeq_nil ?_;clear S;have HB2:=hid (up hB1' hB2);have HL1:=hid (HL.out.below (mask_below hB2));have HL2:=hid hL2;have HBk:=hid (HB.out.below HB2.out);clear hL hL2 hB1 hB1' hB2 HL x0 x1 x2 HB HLT HRD HCL;have lb:=HBk.out.lt;have f0:=HBk.out.frozen 0;have f1:=HBk.out.frozen 1;have f2:=HBk.out.frozen 2;have y0:=HBk.out.cell 0;have y1:=HBk.out.cell 1;have y2:=HBk.out.cell 2;simp only[xG,xH,xI]at y0 y1 y2;go_wp2_with fail
  have hg1:w2.grownBy (((w2.setCell ⟨b,2,none⟩ (.slice a1 (laterP s.fut s.obs).length c1)).setCell ⟨b,0,none⟩ (.slice la (s.past[m]?.getD []).length lc)).setCell ⟨b,1,none⟩ (.slice a2 m c2)) (some b):=
   grown_tr (grown_tr (grown_put _ _ _ _) (grown_put _ _ _ _)) (grown_put _ _ _ _)
  have hg:=grown_tr (Below.toGrown HB2.out (some b)) hg1;have hbk:=((HBk.out.set 2 (.slice a1 (laterP s.fut s.obs).length c1)).set 0 (.slice la (s.past[m]?.getD []).length lc)).set 1 (.slice a2 m c2);simp only[xM,xJ,xK]at hbk;obtain⟨r1,r2,r3⟩:=HREST.out _ hg;have htk:(s.past.take m).length=m:=HTK.out;go_ret;refine⟨by rw[hz.out];rfl,fun _=> ?_,hg⟩;rw[hz.out];refine⟨⟨la,lc,a2,c2,a1,c1,ea,ec,va,vc,by show Blk _ _ #[_,.slice a2 (s.past.take m).length c2,_,_,_,_,_,_,_,_,_] _;rw[htk];exact hbk,r1,by show LsoR _ (.slice a2 (s.past.take m).length c2) _;rw[htk];exact HL2.out.later hg1,HL1.out.later hg1,r2,r3⟩,FrB.of hbk (fun v g e k=>by injection e with e;subst e;exact HFR2.out g k) (fun v g e k=>by injection e with e;subst e;exact HFR1.out g k)⟩
theorem idx_v0 (w:World):(Instr.index 111 verbsV (.int .i64 0)).run Tryz.prog w= .ok (.agg vbC0) w:=by kernel_rfl
theorem idx_v1 (w:World):(Instr.index 111 verbsV (.int .i64 1)).run Tryz.prog w= .ok (.agg vbC1) w:=by kernel_rfl
theorem idx_v2 (w:World):(Instr.index 111 verbsV (.int .i64 2)).run Tryz.prog w= .ok (.agg vbC2) w:=by kernel_rfl
theorem idx_v3 (w:World):(Instr.index 111 verbsV (.int .i64 3)).run Tryz.prog w= .ok (.agg vbC3) w:=by kernel_rfl
theorem idx_v4 (w:World):(Instr.index 111 verbsV (.int .i64 4)).run Tryz.prog w= .ok (.agg vbC4) w:=by kernel_rfl
theorem idx_v5 (w:World):(Instr.index 111 verbsV (.int .i64 5)).run Tryz.prog w= .ok (.agg vbC5) w:=by kernel_rfl
theorem idx_v6 (w:World):(Instr.index 111 verbsV (.int .i64 6)).run Tryz.prog w= .ok (.agg vbC6) w:=by kernel_rfl
theorem idx_v7 (w:World):(Instr.index 111 verbsV (.int .i64 7)).run Tryz.prog w= .ok (.agg vbC7) w:=by kernel_rfl
theorem idx_v8 (w:World):(Instr.index 111 verbsV (.int .i64 8)).run Tryz.prog w= .ok (.agg vbC8) w:=by kernel_rfl
theorem fld_deed (s0:ByteArray)(b1 b2 b3 b4 b5:Bool)(f:Fn)(w:World):(Instr.field 110 (.agg #[.string s0,.bool b1,.bool b2,.bool b3,.bool b4,.bool b5,.func f #[] #[]]) 6).run Tryz.prog w= .ok (.func f #[] #[]) w:=by kernel_rfl
def deedF (k:Nat):Fn:=match k with
 |0=> .func 93
 |1=> .func 94
 |2|3|4=> .func 95
 |5=> .func 96
 |6=> .func 97
 |7=> .func 98
 |_=> .func 99
theorem idx_v (k:Nat)(hk:k<9):∃s0 b1 b2 b3 b4 b5,∀w:World,(Instr.index 111 verbsV (.int .i64 k)).run Tryz.prog w= .ok (.agg #[.string s0,.bool b1,.bool b2,.bool b3,.bool b4,.bool b5,.func (deedF k) #[] #[]]) w:=
 match k,hk with
 |0,_=>⟨_,_,_,_,_,_,idx_v0⟩
 |1,_=>⟨_,_,_,_,_,_,idx_v1⟩
 |2,_=>⟨_,_,_,_,_,_,idx_v2⟩
 |3,_=>⟨_,_,_,_,_,_,idx_v3⟩
 |4,_=>⟨_,_,_,_,_,_,idx_v4⟩
 |5,_=>⟨_,_,_,_,_,_,idx_v5⟩
 |6,_=>⟨_,_,_,_,_,_,idx_v6⟩
 |7,_=>⟨_,_,_,_,_,_,idx_v7⟩
 |8,_=>⟨_,_,_,_,_,_,idx_v8⟩
def doP (s:Ses)(c:Cmd)(r:Int×Ses):Int×Ses:=if sesErr s≠0 then(sesErr s,ses0)else if rightErr c≠0 then(rightErr c,ses0)else if r.1≠0 then(r.1,ses0)else r
def Slc (w:World)(g:Nat):Prop:=∀k u,w.cell? ⟨g,k,none⟩=some u→∃a n c,u= .slice a n c
theorem Slc.blk {w:World}{g:Nat}{v0 v1 v2:Value}{T:TypeId}(h:Blk w g #[v0,v1,v2] T)(h0:∃a n c,v0= .slice a n c)(h1:∃a n c,v1= .slice a n c)(h2:∃a n c,v2= .slice a n c):Slc w g:=fun k u hu=>by
 have e:=(h.cell k).symm.trans hu;match k,e with
 |0,e=>injection e with e;subst e;exact h0
 |1,e=>injection e with e;subst e;exact h1
 |2,e=>injection e with e;subst e;exact h2
 |k+3,e=>simp at e
theorem CellsAt.outS {w:World}{g:Nat}{a:Option Addr}{cs:List Value}(h:CellsAt w a cs)(hg:Slc w g)(h0:∀u,cs[0]? =some u→∀a n c,u≠ .slice a n c):CellsAt (Go.Proofs.YtclgllmipcbagaaGreatDoor.mask g w) a cs:=by
 rcases h with h|⟨b,off,e,hb,hc⟩
 ·exact .inl h
 ·cases cs with
  |nil=>exact .inl rfl
  |cons u us=>
   refine CellsAt.mask (.inr ⟨b,off,e,hb,hc⟩) fun n c e2=> ?_
   subst e
   have e3:b=g:=by injection e2
   subst e3
   have:=hc 0 (by simp)
   rw[Nat.add_zero]at this
   obtain⟨a',n',c',e4⟩:=hg off u (this.trans rfl)
   exact h0 u rfl a' n' c' e4
theorem IntsR.outS {w:World}{g:Nat}{v:Value}{l:List Int}(h:IntsR w v l)(hg:Slc w g):IntsR (Go.Proofs.YtclgllmipcbagaaGreatDoor.mask g w) v l:=by
 obtain⟨a,cap,h1,h2,h3,h4,h5⟩:=h
 exact⟨a,cap,h1,h2,h3,h4,h5.outS hg fun u hu a n c e=>by cases l with
  |nil=>simp at hu
  |cons x l=>simp at hu;rw[← hu]at e;cases e⟩
theorem EdgesR.outS {w:World}{g:Nat}{v:Value}{l:List E}(h:EdgesR w v l)(hg:Slc w g):EdgesR (Go.Proofs.YtclgllmipcbagaaGreatDoor.mask g w) v l:=by
 obtain⟨a,cap,h1,h2,h3,h4,h5⟩:=h
 exact⟨a,cap,h1,h2,h3,h4,h5.outS hg fun u hu a n c e=>by cases l with
  |nil=>simp at hu
  |cons x l=>simp[E.cells]at hu;rw[← hu]at e;cases e⟩
theorem ObsR.outS {w:World}{g:Nat}{v:Value}{l:List Ob}(h:ObsR w v l)(hg:Slc w g):ObsR (Go.Proofs.YtclgllmipcbagaaGreatDoor.mask g w) v l:=by
 obtain⟨a,cap,cs,h1,h2,h3,h4,h5,h6,h7⟩:=h;refine⟨a,cap,cs,h1,h2,h3,h4,h5.outS hg fun u hu a n c e=> ?_,h6,fun k hk=> ?_⟩
 ·cases l with
  |nil=>rw[List.length_nil,Nat.zero_mul,List.length_eq_zero_iff]at h6;rw[h6]at hu;simp at hu
  |cons x l=>
   obtain⟨ev,dv,e5,_⟩:=h7 0 (by simp)
   obtain⟨y0,_⟩:=drop5 e5
   rw[Nat.zero_mul]at y0
   rw[y0]at hu
   injection hu with hu
   rw[← hu]at e
   cases e
 ·obtain⟨ev,dv,e5,he,hd⟩:=h7 k hk
  exact⟨ev,dv,e5,he.outS hg,hd.outS hg⟩
theorem LsoR.outS {w:World}{g n cap:Nat}{a:Option Addr}{l:List (List Ob)}(h:LsoR w (.slice a n cap) l)(hg:Slc w g)(hb:∀k,(Value.slice a n cap).ownBlock=some k→k≠g):LsoR (Go.Proofs.YtclgllmipcbagaaGreatDoor.mask g w) (.slice a n cap) l:=by
 obtain⟨a',cap',vs,h1,h2,h3,h4,h5,h6,h7⟩:=h;have e:=h1;injection e with e1 _ e3
 subst e1 e3;exact⟨a,cap,vs,h1,h2,h3,h4,h5.mask fun n' c' e=>hb g (by cases a<;>exact e) rfl,h6,fun k hk=>(h7 k hk).outS hg⟩
def RetDo (r:Int×Ses)(w:World)(e:Ending)(w':World):Prop:=∃oa oc pa pc fa fc,e= .returned (.tuple #[.agg #[.slice oa r.2.obs.length oc,.slice pa r.2.past.length pc,.slice fa r.2.fut.length fc],.int .i64 r.1])∧
 SesR w' (.agg #[.slice oa r.2.obs.length oc,.slice pa r.2.past.length pc,.slice fa r.2.fut.length fc]) r.2∧(∀ g,(Value.slice pa r.2.past.length pc).ownBlock=some g→w.heap.size≤g)∧(∀ g,(Value.slice fa r.2.fut.length fc).ownBlock=some g→w.heap.size≤g)∧Below w.heap.size w w'
theorem SesR.put3 {w:World}{g:Nat}{oa pa fa:Option Addr}{on oc pn pc fn fc:Nat}{s:Ses}(h:SesR w (.agg #[.slice oa on oc,.slice pa pn pc,.slice fa fn fc]) s)(hg:Slc w g)(hp:∀k,(Value.slice pa pn pc).ownBlock=some k→k≠g)(hf:∀k,(Value.slice fa fn fc).ownBlock=some k→k≠g)(y0 y1 y2:Value):
 SesR (((w.setCell ⟨g,0,none⟩ y0).setCell ⟨g,1,none⟩ y1).setCell ⟨g,2,none⟩ y2) (.agg #[.slice oa on oc,.slice pa pn pc,.slice fa fn fc]) s:=by
 obtain⟨ov,pv,fv,e,h1,h2,h3⟩:=h;have hs:Sub (Go.Proofs.YtclgllmipcbagaaGreatDoor.mask g w) (((w.setCell ⟨g,0,none⟩ y0).setCell ⟨g,1,none⟩ y1).setCell ⟨g,2,none⟩ y2):=((subX_set w g 0 y0).trans ((subX_set _ g 1 y1).trans (subX_set _ g 2 y2))).mask.trans (sub_unmask _ _);injection e with e
 obtain⟨e0,e1,e2⟩:Value.slice oa on oc=ov∧Value.slice pa pn pc=pv∧Value.slice fa fn fc=fv:=by
  have e':=congrArg Array.toList e;injection e' with e0 e'
  injection e' with e1 e'
  injection e' with e2 e'
  exact⟨e0,e1,e2⟩
 subst e0 e1 e2;exact⟨_,_,_,rfl,(h1.outS hg).sub hs,(h2.outS hg hp).sub hs,(h3.outS hg hf).sub hs⟩
theorem SesR.zero (w:World):SesR w (.agg #[.slice none 0 0,.slice none 0 0,.slice none 0 0]) ses0:=⟨_,_,_,rfl,⟨none,0,[],rfl,Nat.le_refl _,by omega,by decide,.inl rfl,rfl,fun k hk=>by cases hk⟩,LsoR.nil _,LsoR.nil _⟩
theorem s_Do (s:Ses)(c:Cmd)(sv cv:Value)(fn:Nat)(r:Int×Ses)(w:World)(hs:SesR w sv s)(hc:CmdR w cv c)(hms:SmSes s)(hmc:SmCmd c)(hfn:deedF c.kind.toNat= .func fn)
 (hcf:∀args w,(callFunc fn args).run Tryz.prog w= .ok (.enter fn args) w)
 (hd:∀(b:Nat) (W:World),Ed W b s c→sesErr s=0→rightErr c=0→Calls Tryz.prog fn #[.pointer (some ⟨b,0,none⟩)] W (RetDeed b c r W)):
 Calls Tryz.prog 16 #[sv,cv] w (RetDo (doP s c r) w):=by
 have HSR:Hid (∀ W,Below w.heap.size w W→SesR W sv s):=fun W h=>hs.below h;have HCR:Hid (∀ W,Below w.heap.size w W→CmdR W cv c):=fun W h=>hc.below h;have HCF:=hid hcf;have HD:=hid hd;have HFN:=hid hfn;have hcd:=hc;obtain⟨ov,pv,fv,rfl,ho,hp,hf⟩:=hs;obtain⟨oa,oc,rfl,_⟩:=ho.form;obtain⟨pa,pc,rfl,_⟩:=hp.form;obtain⟨fa,fc,rfl,_⟩:=hf.form;obtain⟨ev,vv,rfl,he,hv⟩:=hc;obtain⟨ea,ec,rfl,_⟩:=id he;obtain⟨va,vc,rfl,_⟩:=id hv;have HEE:=hid he;have HVV:=hid hv;have HCH:=hid (fun W h=>s_Check s _ W (HSR.out W h) hms);have HRI:=hid (fun W h=>s_Right c _ W (HCR.out W h) hmc);have HSH:=hid (fun W h=>s_shared s _ W (HSR.out W h))
 have HZ:Hid (doP s c r=if sesErr s≠0 then(sesErr s,ses0)else if rightErr c≠0 then(rightErr c,ses0)else if r.1≠0 then(r.1,ses0)else r):=rfl;have HSE:Hid (0=0):=rfl;generalize doP s c r=z at*
 have hB:Below w.heap.size w (((w.alloc (.cells #[.slice oa s.obs.length oc,.slice pa s.past.length pc,.slice fa s.fut.length fc] 25)).alloc (.cells #[.int .i64 c.kind,.string (str c.name),.string (str c.on),.string (str c.other),.int .i64 c.q,.int .i64 c.g.n,.slice ea c.g.es.length ec,.slice va c.vals.length vc] 31)).alloc (.cells #[.slice none 0 0,.slice none 0 0,.slice none 0 0] 25)):=by go_grown
 have HB0:=hid hB;have HX:=hid (((Blk.new w #[.slice oa s.obs.length oc,.slice pa s.past.length pc,.slice fa s.fut.length fc] 25).alloc (.cells #[.int .i64 c.kind,.string (str c.name),.string (str c.on),.string (str c.other),.int .i64 c.q,.int .i64 c.g.n,.slice ea c.g.es.length ec,.slice va c.vals.length vc] 31)).alloc (.cells #[.slice none 0 0,.slice none 0 0,.slice none 0 0] 25));have hY:=(Blk.new (w.alloc (.cells #[.slice oa s.obs.length oc,.slice pa s.past.length pc,.slice fa s.fut.length fc] 25)) #[.int .i64 c.kind,.string (str c.name),.string (str c.on),.string (str c.other),.int .i64 c.q,.int .i64 c.g.n,.slice ea c.g.es.length ec,.slice va c.vals.length vc] 31).alloc (.cells #[.slice none 0 0,.slice none 0 0,.slice none 0 0] 25)
 rw[World.size_alloc]at hY;have hR:=Blk.new ((w.alloc (.cells #[.slice oa s.obs.length oc,.slice pa s.past.length pc,.slice fa s.fut.length fc] 25)).alloc (.cells #[.int .i64 c.kind,.string (str c.name),.string (str c.on),.string (str c.other),.int .i64 c.q,.int .i64 c.g.n,.slice ea c.g.es.length ec,.slice va c.vals.length vc] 31)) #[.slice none 0 0,.slice none 0 0,.slice none 0 0] 25;rw[World.size_alloc,World.size_alloc]at hR;have HY:=hid hY;have HR:=hid hR;clear hB hY hR ho hp hf he hv hms hmc hcf hd hfn hcd;go_enter Tryz.func16,Tryz.ntmps16;go_upto_region 1 with fail;generalize (((w.alloc (.cells #[.slice oa s.obs.length oc,.slice pa s.past.length pc,.slice fa s.fut.length fc] 25)).alloc (.cells #[.int .i64 c.kind,.string (str c.name),.string (str c.on),.string (str c.other),.int .i64 c.q,.int .i64 c.g.n,.slice ea c.g.es.length ec,.slice va c.vals.length vc] 31)).alloc (.cells #[.slice none 0 0,.slice none 0 0,.slice none 0 0] 25))=W0 at*
 have lx:=HX.out.lt;have x0:=HX.out.cell 0;have x1:=HX.out.cell 1;have x2:=HX.out.cell 2;simp only[xG,xH,xI]at x0 x1 x2;go_wp2_with fail;refine(HCH.out _ HB0.out).mono ?_;rintro e w1 ⟨rfl,hB1⟩;have HB1:=hid (up HB0.out hB1);have HX1:=hid (HX.out.below hB1);have HY1:=hid (HY.out.below hB1);have HR1:=hid (HR.out.below hB1);clear hB1 lx x0 x1 x2 HX HY HR HB0 HCH HSE;generalize hse:sesErr s=se at*
 dsimp only;have lr:=HR1.out.lt;have r0:=HR1.out.cell 0;have r1:=HR1.out.cell 1;have r2:=HR1.out.cell 2;have g0:=HR1.out.frozen 0;have g1:=HR1.out.frozen 1;have g2:=HR1.out.frozen 2;simp only[xG,xH,xI]at r0 r1 r2;by_cases h0:se=0
 case neg=>
  have hz:Hid (z=(se,ses0)):=by show _=_;rw[HZ.out,if_pos h0]
  clear hse HZ HD;go_wp2_with fail;refine bodyPost_ret (results_cellB rfl rfl (load_ses (blk3 HR1.out _ _ _))) rfl ⟨none,0,none,0,none,0,(by rw[hz.out];rfl),(by rw[hz.out];exact SesR.zero _),(fun g k=>by cases k),(fun g k=>by cases k),below3 HB1.out (by omega) _ _ _⟩
 subst h0;have HSE:=hid hse;clear hse lr r0 r1 r2 g0 g1 g2;have HZ1:Hid (z=if rightErr c≠0 then(rightErr c,ses0)else if r.1≠0 then(r.1,ses0)else r):=by show _=_;rw[HZ.out,if_neg (by simp)]
 clear HZ;have ly:=HY1.out.lt;have y0:=HY1.out.cell 0;have y1:=HY1.out.cell 1;have y2:=HY1.out.cell 2;have y3:=HY1.out.cell 3;have y4:=HY1.out.cell 4;have y5:=HY1.out.cell 5;have y6:=HY1.out.cell 6;have y7:=HY1.out.cell 7;simp only[xG,xH,xI]at y0 y1 y2 y3 y4 y5 y6 y7;go_wp2_with fail;refine(HRI.out _ HB1.out).mono ?_;rintro e w2 ⟨rfl,hB2⟩;have HX2:=hid (HX1.out.below hB2);have HY2:=hid (HY1.out.below hB2);have HR2:=hid (HR1.out.below hB2);have HB2:=hid (up HB1.out hB2);clear hB2 ly y0 y1 y2 y3 y4 y5 y6 y7 HX1 HY1 HR1 HB1 HRI;generalize hre:rightErr c=re at*
 dsimp only;by_cases h0:re=0
 case neg=>
  have lr:=HR2.out.lt;have r0:=HR2.out.cell 0;have r1:=HR2.out.cell 1;have r2:=HR2.out.cell 2;have g0:=HR2.out.frozen 0;have g1:=HR2.out.frozen 1;have g2:=HR2.out.frozen 2;simp only[xG,xH,xI]at r0 r1 r2;have hz:Hid (z=(re,ses0)):=by show _=_;rw[HZ1.out,if_pos h0]
  clear hre HZ1 HD;go_wp2_with fail;refine bodyPost_ret (results_cellB rfl rfl (load_ses (blk3 HR2.out _ _ _))) rfl ⟨none,0,none,0,none,0,(by rw[hz.out];rfl),(by rw[hz.out];exact SesR.zero _),(fun g k=>by cases k),(fun g k=>by cases k),below3 HB2.out (by omega) _ _ _⟩
 subst h0;have HK:Hid (¬ (c.kind<0∨8<c.kind)):=by
  intro hk;rw[show rightErr c=1 from if_pos hk]at hre;cases hre
 have HRE:=hid hre;clear hre;have HZ2:Hid (z=if r.1≠0 then(r.1,ses0)else r):=by show _=_;rw[HZ1.out,if_neg (by simp)]
 clear HZ1;go_upto_region 7 with fail;have lx:=HX2.out.lt;have x0:=HX2.out.cell 0;have x1:=HX2.out.cell 1;have x2:=HX2.out.cell 2;have ly:=HY2.out.lt;have y0:=HY2.out.cell 0;have y1:=HY2.out.cell 1;have y2:=HY2.out.cell 2;have y3:=HY2.out.cell 3;have y4:=HY2.out.cell 4;have y5:=HY2.out.cell 5;have y6:=HY2.out.cell 6;have y7:=HY2.out.cell 7;simp only[xG,xH,xI]at x0 x1 x2 y0 y1 y2 y3 y4 y5 y6 y7;go_cut [8] (fun s8 W3=>∃b,s8= .pointer (some ⟨b,0,none⟩)∧w2.heap.size≤b∧Ed W3 b s c∧Below w2.heap.size w2 W3)
 case first=>
  let S:World→Prop:=fun w'=>Below w2.heap.size w2 w'
  (refine wp_region_pre 2 3 [] [0,2,1] S (by kernel_rfl) (by kernel_rfl) (by intro _ _ d _ _ h;cases d<;>exact h) ?_;simp only[xA,xB,xC,xD,xE,xF]);refine wpSeq_nil ⟨Below.drew (Below.refl _ _),?_⟩;(repeat ((refine' wpSeq_take rfl _ (by rfl) ?_ ?_;rotate_left;focus(intro w' hS;(try dsimp only at hS);have p0:w'.cell? ⟨w.heap.size,0,none⟩=some (.slice oa s.obs.length oc):=(Below.cell hS (p:=⟨w.heap.size,0,none⟩) lx).trans x0;have p1:w'.cell? ⟨w.heap.size,1,none⟩=some (.slice pa s.past.length pc):=(Below.cell hS (p:=⟨w.heap.size,1,none⟩) lx).trans x1;have p2:w'.cell? ⟨w.heap.size,2,none⟩=some (.slice fa s.fut.length fc):=(Below.cell hS (p:=⟨w.heap.size,2,none⟩) lx).trans x2;have q0:w'.cell? ⟨w.heap.size+1,0,none⟩=some (.int .i64 c.kind):=(Below.cell hS (p:=⟨w.heap.size+1,0,none⟩) ly).trans y0;have q1:w'.cell? ⟨w.heap.size+1,1,none⟩=some (.string (str c.name)):=(Below.cell hS (p:=⟨w.heap.size+1,1,none⟩) ly).trans y1;have q2:w'.cell? ⟨w.heap.size+1,2,none⟩=some (.string (str c.on)):=(Below.cell hS (p:=⟨w.heap.size+1,2,none⟩) ly).trans y2;have q3:w'.cell? ⟨w.heap.size+1,3,none⟩=some (.string (str c.other)):=(Below.cell hS (p:=⟨w.heap.size+1,3,none⟩) ly).trans y3;have q4:w'.cell? ⟨w.heap.size+1,4,none⟩=some (.int .i64 c.q):=(Below.cell hS (p:=⟨w.heap.size+1,4,none⟩) ly).trans y4;have q5:w'.cell? ⟨w.heap.size+1,5,none⟩=some (.int .i64 c.g.n):=(Below.cell hS (p:=⟨w.heap.size+1,5,none⟩) ly).trans y5;have q6:w'.cell? ⟨w.heap.size+1,6,none⟩=some (.slice ea c.g.es.length ec):=(Below.cell hS (p:=⟨w.heap.size+1,6,none⟩) ly).trans y6;have q7:w'.cell? ⟨w.heap.size+1,7,none⟩=some (.slice va c.vals.length vc):=(Below.cell hS (p:=⟨w.heap.size+1,7,none⟩) ly).trans y7;go_simp;(first|done|with_reducible rfl));(try go_frame));(try go_frame)))
  (refine wpSeq_call rfl (by rfl) (fun K hK=> ?_);go_simp;refine(HSH.out _ (up HB2.out (Below.drew (Below.refl _ _)))).mono ?_;rintro e w3 ⟨na,nc,ma,mc,ka,kc,rfl,ho3,hp3,hf3,hB3⟩;refine hK _ _ (up (Below.drew (Below.refl _ _)) hB3) ?_;clear hK K;(try go_frame));refine wpSeq_nil ?_;clear S;have HB3:Hid (Below w2.heap.size w2 w3):=up (Below.drew (Below.refl _ _)) hB3;have HO3:=hid ho3;have HP3:=hid hp3;have HF3:=hid hf3;clear ho3 hp3 hf3 hB3;go_wp2_with fail;go_meet;have hB4:Below w.heap.size w w3:=up HB2.out HB3.out;refine⟨_,rfl,HB3.out.size,⟨_,_,_,_,_,_,_,_,_,_,Blk.new _ _ _,HO3.out.below (mask_new _ _),HP3.out.below (mask_new _ _),HF3.out.below (mask_new _ _),(HEE.out.below hB4).below (mask_new _ _),(HVV.out.below hB4).below (mask_new _ _)⟩,HB3.out.alloc HB3.out.size _⟩
 case rest=>
  obtain⟨b,rfl,hb,hE,hB3⟩:=hcut;obtain⟨W3,rfl⟩:∃W:World,W=wc:=⟨_,rfl⟩;have HY3:=hid (HY2.out.below hB3);have HR3:=hid (HR2.out.below hB3);have hb0:w.heap.size+3≤b:=by have:=HR2.out.lt;omega
  have HB3:=hid (up HB2.out hB3);have HE:=hid hE;clear hB3 hE HX2 HY2 HR2 HB2 lx x0 x1 x2 ly y0 y1 y2 y3 y4 y5 y6 y7 HSH HEE HVV hb;obtain⟨kn,hkn⟩:∃kn:Nat,c.kind=(kn:Int):=⟨c.kind.toNat,by have:=HK.out;omega⟩;have hk9:kn<9:=by have:=HK.out;omega
  have HFN2:Hid (deedF kn= .func fn):=by show _=_;rw[← HFN.out,hkn];rfl
  obtain⟨s0,b1,b2,b3,b4,b5,hix⟩:=idx_v kn hk9;rw[HFN2.out]at hix;have HIX:=hid hix;clear hix hk9 HK;go_upto_region 8 with fail;have ly:=HY3.out.lt;have y0:=HY3.out.cell 0;simp only[xG,xH,xI]at y0;rw[hkn]at y0;have HKN:=hid hkn;clear hkn;let S:World→Prop:=fun w'=>Below W3.heap.size W3 w'
  (refine wp_region_pre 2 6 [1,5] [2,0,3,4] S (by kernel_rfl) (by kernel_rfl) (by intro _ _ d _ _ h;cases d<;>exact h) ?_;simp only[xA,xB,xC,xD,xE,xF]);(repeat ((refine' wpSeq_take rfl _ (by rfl) ?_ ?_;rotate_left;focus(intro w' hS;(try dsimp only at hS);skip;go_simp;(first|done|with_reducible rfl));(try go_frame));(try go_frame)));refine wpSeq_nil ⟨Below.drew (Below.refl _ _),?_⟩;(repeat ((refine' wpSeq_take rfl _ (by rfl) ?_ ?_;rotate_left;focus(intro w' hS;(try dsimp only at hS);have q0:w'.cell? ⟨w.heap.size+1,0,none⟩=some (.int .i64 kn):=(Below.cell hS (p:=⟨w.heap.size+1,0,none⟩) ly).trans y0;go_simp;(first|done|with_reducible rfl));(try go_frame));(try go_frame)))
  (refine wpSeq_call rfl (by rfl) (fun K hK=> ?_);go_simp;refine(s_verbs _).mono ?_;rintro e w4 ⟨rfl,hB4⟩;refine hK _ _ (up (Below.drew (Below.refl _ _)) hB4) ?_;clear hK K;(try go_frame));have HB4:Hid (Below W3.heap.size W3 w4):=up (Below.drew (Below.refl _ _)) hB4;clear hB4;(refine' wpSeq_take rfl _ (by rfl) ?_ ?_;rotate_left;focus(intro w' hS;(try dsimp only at hS);have i0:=HIX.out w';go_simp;(first|done|with_reducible rfl));(try go_frame));(repeat ((refine' wpSeq_take rfl _ (by rfl) ?_ ?_;rotate_left;focus(intro w' hS;(try dsimp only at hS);have i1:=fld_deed s0 b1 b2 b3 b4 b5 (.func fn) w';go_simp;(first|done|with_reducible rfl));(try go_frame));(try go_frame)))
  refine wpSeq_nil ?_;clear S;have HB5:=hid (up HB3.out HB4.out);have HE5:=hid (HE.out.below HB4.out);have HDD:=hid (HD.out b w4 HE5.out (by simp) (by simp));have hcf:=HCF.out;go_wp2_with fail;refine HDD.out.mono ?_;rintro e w5 ⟨rfl,hE6,hg6⟩;have hB6:Below w.heap.size w w5:=HB5.out.grown hg6 (by have:=HB5.out.size;omega) (by intro k hk;injection hk with hk;omega);have HR6:=hid ((HR3.out.below HB4.out).grown hg6 (by intro h;injection h with h;omega));have HB6:=hid hB6;have HE6:=hid hE6;clear hB6 hE6 hg6 ly y0 HDD hcf HD HCF;dsimp only;by_cases h0:r.1=0
  ·have hz:Hid (z=(0,r.2)):=by show _=_;rw[HZ2.out,if_neg (by simp[h0])];exact Prod.ext h0 rfl
   obtain⟨⟨oa',oc',pa',pc',fa',fc',ea',ec',va',vc',hbk,ho',hp',hf',_⟩,hfr⟩:=HE6.out h0;have HBK:=hid hbk;have HFP:Hid (∀ g,(Value.slice pa' r.2.past.length pc').ownBlock=some g→w.heap.size+3≤g):=fun g k=>Nat.le_trans (Nat.le_trans hb0 (Nat.le_of_lt HE5.out.lt)) (hfr.1 _ g ((hbk.cell 1).trans rfl) k);have HFF:Hid (∀ g,(Value.slice fa' r.2.fut.length fc').ownBlock=some g→w.heap.size+3≤g):=fun g k=>Nat.le_trans (Nat.le_trans hb0 (Nat.le_of_lt HE5.out.lt)) (hfr.2 _ g ((hbk.cell 2).trans rfl) k);have HSS:Hid (SesR w5 (.agg #[.slice oa' r.2.obs.length oc',.slice pa' r.2.past.length pc',.slice fa' r.2.fut.length fc']) r.2):=⟨_,_,_,rfl,ho'.unmask,hp'.unmask,hf'.unmask⟩
   clear hbk ho' hp' hf' HE6 HZ2;have lb:=HBK.out.lt;have x0:=HBK.out.cell 0;have x1:=HBK.out.cell 1;have x2:=HBK.out.cell 2;simp only[xG,xH,xI]at x0 x1 x2;have lr:=HR6.out.lt;have r0:=HR6.out.cell 0;have r1:=HR6.out.cell 1;have r2:=HR6.out.cell 2;have g0:=HR6.out.frozen 0;have g1:=HR6.out.frozen 1;have g2:=HR6.out.frozen 2;simp only[xG,xH,xI]at r0 r1 r2;generalize r.2=s2 at*
   generalize r.1=e2 at*
   subst h0;go_wp2_with fail;refine bodyPost_ret (results_cellB rfl rfl (load_ses (blk3 HR6.out _ _ _))) rfl ⟨oa',oc',pa',pc',fa',fc',(by rw[hz.out];rfl),(by rw[hz.out];exact HSS.out.put3 (Slc.blk HR6.out ⟨_,_,_,rfl⟩ ⟨_,_,_,rfl⟩ ⟨_,_,_,rfl⟩) (fun k e=>by have:=HFP.out k (by rw[hz.out]at *;exact e);omega) (fun k e=>by have:=HFF.out k (by rw[hz.out]at *;exact e);omega) _ _ _),(fun g e=>by have:=HFP.out g (by rw[hz.out]at e;exact e);omega),(fun g e=>by have:=HFF.out g (by rw[hz.out]at e;exact e);omega),below3 HB6.out (by omega) _ _ _⟩
  ·have hz:Hid (z=(r.1,ses0)):=by show _=_;rw[HZ2.out,if_pos h0]
   clear HE6 HZ2;have lr:=HR6.out.lt;have r0:=HR6.out.cell 0;have r1:=HR6.out.cell 1;have r2:=HR6.out.cell 2;have g0:=HR6.out.frozen 0;have g1:=HR6.out.frozen 1;have g2:=HR6.out.frozen 2;simp only[xG,xH,xI]at r0 r1 r2;generalize r.1=e2 at*
   go_wp2_with fail;refine bodyPost_ret (results_cellB rfl rfl (load_ses (blk3 HR6.out _ _ _))) rfl ⟨none,0,none,0,none,0,(by rw[hz.out];rfl),(by rw[hz.out];exact SesR.zero _),(fun g k=>by cases k),(fun g k=>by cases k),below3 HB6.out (by omega) _ _ _⟩
def CmV (w:World)(c:Cmd)(vs:List Value):Prop:=∃ev vv,vs=[.int .i64 c.kind,.string (str c.name),.string (str c.on),.string (str c.other),.int .i64 c.q,.int .i64 c.g.n,ev,vv]∧EdgesR w ev c.g.es∧IntsR w vv c.vals
theorem CmV.below {w w':World}{c:Cmd}{vs:List Value}(h:CmV w c vs)(hb:Below w.heap.size w w'):CmV w' c vs:=by
 obtain⟨ev,vv,e,h1,h2⟩:=h;exact⟨ev,vv,e,h1.below hb,h2.below hb⟩
def CmsR (w:World)(v:Value)(l:List Cmd):Prop:=
 ∃a cap cs,v= .slice a l.length cap∧l.length≤cap∧cap≤9223372036854775807∧l.length*120≤140737488355328∧CellsAt w a cs∧cs.length=l.length*8∧∀k,k<l.length→CmV w (l[k]?.getD default) ((cs.drop (k*8)).take 8)
theorem CmsR.below {w w':World}{v:Value}{l:List Cmd}(h:CmsR w v l)(hb:Below w.heap.size w w'):CmsR w' v l:=by
 obtain⟨a,cap,cs,h1,h2,h3,h4,h5,h6,h7⟩:=h;exact⟨a,cap,cs,h1,h2,h3,h4,h5.below hb,h6,fun k hk=>(h7 k hk).below hb⟩
theorem drop8 {α:Type}{cs:List α}{k:Nat}{x0 x1 x2 x3 x4 x5 x6 x7:α}(h:(cs.drop (k*8)).take 8=[x0,x1,x2,x3,x4,x5,x6,x7]):
 cs[k*8]? =some x0∧cs[k*8+1]? =some x1∧cs[k*8+2]? =some x2∧cs[k*8+3]? =some x3∧cs[k*8+4]? =some x4∧cs[k*8+5]? =some x5∧cs[k*8+6]? =some x6∧cs[k*8+7]? =some x7:=by
 have e:∀j,j<8→cs[k*8+j]? =[x0,x1,x2,x3,x4,x5,x6,x7][j]? :=fun j hj=>by
  rw[← h,List.getElem?_take_of_lt hj,List.getElem?_drop]
 exact⟨e 0 (by omega),e 1 (by omega),e 2 (by omega),e 3 (by omega),e 4 (by omega),e 5 (by omega),e 6 (by omega),e 7 (by omega)⟩
theorem CmsR.form {w:World}{v:Value}{l:List Cmd}(h:CmsR w v l):∃a cap,v= .slice a l.length cap∧l.length≤cap∧cap≤9223372036854775807∧l.length*120≤140737488355328:=by
 obtain⟨a,cap,cs,h1,h2,h3,h4,_⟩:=h;exact⟨a,cap,h1,h2,h3,h4⟩
theorem CmsR.nil (w:World):CmsR w (.slice none 0 0) []:=⟨none,0,[],rfl,Nat.le_refl _,by omega,by decide,.inl rfl,rfl,fun k hk=>by cases hk⟩
theorem CmsR.atB {w w':World}{a:Option Addr}{n cap:Nat}{l:List Cmd}(h:CmsR w (.slice a n cap) l)(hB:Below w.heap.size w w')(k:Nat)(hk:k<l.length):
 ∃b off ea ec va vc,a=some ⟨b,off,none⟩∧b<w.heap.size∧b<w'.heap.size∧w'.cell? ⟨b,off+k*8,none⟩=some (.int .i64 (l[k]?.getD default).kind)∧w'.cell? ⟨b,off+k*8+1,none⟩=some (.string (str (l[k]?.getD default).name))∧w'.cell? ⟨b,off+k*8+2,none⟩=some (.string (str (l[k]?.getD default).on))∧
  w'.cell? ⟨b,off+k*8+3,none⟩=some (.string (str (l[k]?.getD default).other))∧w'.cell? ⟨b,off+k*8+4,none⟩=some (.int .i64 (l[k]?.getD default).q)∧w'.cell? ⟨b,off+k*8+5,none⟩=some (.int .i64 (l[k]?.getD default).g.n)∧
  w'.cell? ⟨b,off+k*8+6,none⟩=some (.slice ea (l[k]?.getD default).g.es.length ec)∧w'.cell? ⟨b,off+k*8+7,none⟩=some (.slice va (l[k]?.getD default).vals.length vc)∧
  EdgesR w (.slice ea (l[k]?.getD default).g.es.length ec) (l[k]?.getD default).g.es∧IntsR w (.slice va (l[k]?.getD default).vals.length vc) (l[k]?.getD default).vals:=by
 obtain⟨a',cap',cs,e,_,_,_,hc,hl,ho⟩:=h;injection e with e1 _ _
 subst e1;obtain⟨ev,vv,e,h1,h2⟩:=ho k hk;obtain⟨y0,y1,y2,y3,y4,y5,y6,y7⟩:=drop8 e;obtain⟨ea,ec,rfl,_⟩:=id h1;obtain⟨va,vc,rfl,_⟩:=id h2;rcases hc with hc|⟨b,off,e2,hb,hc⟩
 ·rw[hc]at hl;simp at hl;omega
 ·have hcw:∀j,j<8→w'.cell? ⟨b,off+k*8+j,none⟩=cs[k*8+j]? :=fun j hj=>by
   rw[hB.cell (p:=⟨b,off+k*8+j,none⟩) hb,show off+k*8+j=off+(k*8+j) by omega,hc _ (by omega)]
  exact⟨b,off,ea,ec,va,vc,e2,hb,Nat.lt_of_lt_of_le hb hB.size,(hcw 0 (by omega)).trans y0,(hcw 1 (by omega)).trans y1,(hcw 2 (by omega)).trans y2,(hcw 3 (by omega)).trans y3,(hcw 4 (by omega)).trans y4,(hcw 5 (by omega)).trans y5,(hcw 6 (by omega)).trans y6,(hcw 7 (by omega)).trans y7,h1,h2⟩
end Go.Proofs.YtclgllmipcbagaaGreatDoor
