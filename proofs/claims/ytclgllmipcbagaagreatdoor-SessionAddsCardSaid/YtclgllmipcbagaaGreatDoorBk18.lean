/-
  Parts of the proof: XSn
-/
import Derived.Test.YtclgllmipcbagaaGreatDoorBk17
namespace Go.Proofs.YtclgllmipcbagaaGreatDoor
open Go.RowKit
set_option linter.unusedVariables false
set_option linter.unusedSimpArgs false
set_option maxRecDepth 100000
set_option maxHeartbeats 16000000
theorem q_FewS (s:Ses)(v:Value)(w:World)(hs:SesR w v s)(hm:SmSes s):
 Calls Tryz.prog 11 #[v] w (RetD (fewSes s) w):=by
 obtain⟨ov,pv,fv,rfl,ho,hp,hf⟩:=hs;obtain⟨oa,oc,rfl,_⟩:=ho.form;obtain⟨pa,pc,rfl,hp1,hp2,hp3⟩:=hp.form;obtain⟨fa,fc,rfl,hf1,hf2,hf3⟩:=hf.form;have HM1:=hid hm.2.1;have HM2:=hid hm.2.2;have HOC:=hid (fun W (h:Below w.heap.size w W)=>q_FewObs s.obs _ W (ho.below h) hm.1);have HPP:=hid hp;have HFF:=hid hf;have HZ:Hid (fewSes s=(fewObs s.obs&&decide (s.past.length≤100)&&decide (s.fut.length≤100)&&s.past.all fewObs&&s.fut.all fewObs)):=rfl;clear ho hp hf hm;generalize fewSes s=z at*
 generalize fewObs s.obs=fo at*
 have hB:Below w.heap.size w (w.alloc (.cells #[.slice oa s.obs.length oc,.slice pa s.past.length pc,.slice fa s.fut.length fc] 36)):=by go_grown
 have HX:=hid (Blk.new w #[.slice oa s.obs.length oc,.slice pa s.past.length pc,.slice fa s.fut.length fc] 36);have HB0:=hid hB;clear hB;go_enter Tryz.func11,Tryz.ntmps11;go_upto_region 1 with fail;generalize w.alloc (.cells #[.slice oa s.obs.length oc,.slice pa s.past.length pc,.slice fa s.fut.length fc] 36)=W0 at*
 have lx:=HX.out.lt;have x0:=HX.out.cell 0;simp only[xG,xH,xI]at x0;go_wp2_with fail;refine(HOC.out W0 HB0.out).mono ?_;rintro e w1 ⟨rfl,hB1⟩;have HB1:=hid (up HB0.out hB1);have HX1:=hid (HX.out.below hB1);clear hB1 lx x0 HX HB0 HOC;have lx:=HX1.out.lt;have x1:=HX1.out.cell 1;have x2:=HX1.out.cell 2;simp only[xG,xH,xI]at x1 x2;dsimp only;cases fo with
 |false=>
  go_wp2_with fail
  go_ret
  exact⟨ret_bool (by rw[HZ.out];rfl),HB1.out⟩
 |true=>
 by_cases h1:100<s.past.length
 case pos=>
  have g1:decide ((100:Int)<(s.past.length:Int))=true:=by simp;omega
  have hz:Hid (false=z):=by show _=_;rw[HZ.out,decide_eq_false (by omega:¬s.past.length≤100)];rfl
  clear h1;go_wp2_with fail;go_ret;exact⟨ret_bool hz.out,HB1.out⟩
 have g1:decide ((100:Int)<(s.past.length:Int))=false:=by simp;omega
 by_cases h2:100<s.fut.length
 case pos=>
  have g2:decide ((100:Int)<(s.fut.length:Int))=true:=by simp;omega
  have hz:Hid (false=z):=by show _=_;rw[HZ.out,decide_eq_false (by omega:¬s.fut.length≤100)];simp
  clear h1 h2;go_wp2_with fail;go_ret;exact⟨ret_bool hz.out,HB1.out⟩
 have g2:decide ((100:Int)<(s.fut.length:Int))=false:=by simp;omega
 have HZ2:Hid (z=(s.past.all fewObs&&s.fut.all fewObs)):=by show _=_;rw[HZ.out,decide_eq_true (by omega:s.past.length≤100),decide_eq_true (by omega:s.fut.length≤100)];rfl
 clear HZ h1 h2;have HZ:=HZ2;clear HZ2;go_wp2_with fail;clear x1 x2 lx;go_loopw [3] (fun i wr=>∃k:Nat,k≤s.past.length∧i= .int .i64 k∧Hid (∀ j,j<k→fewObs (s.past[j]?.getD default)=true)∧Hid (Below w1.heap.size w1 wr)) (fun i _=>s.past.length-(intOf i).toNat);case atStart=>exact⟨0,Nat.zero_le _,rfl,fun j hj=>by omega,Below.refl _ _⟩
 case round=>
  obtain⟨k,hk,rfl,HP,HB⟩:=hrel;obtain⟨wo,rfl⟩:∃wo:World,wo=wr:=⟨_,rfl⟩;have hk0:(0:Int)≤(k:Int):=by omega
  have wk:IntKind.i64.wrap ((k:Int)+1)=(k:Int)+1:=IntWalk.i64_in _ (by omega);have HXo:=hid (HX1.out.below HB.out);have HBo:=hid (up HB1.out HB.out);have lx:=HXo.out.lt;have x1:=HXo.out.cell 1;simp only[xG,xH,xI]at x1;by_cases hlt:k<s.past.length
  ·have hlt':(k:Int)<(s.past.length:Int):=by omega
   obtain⟨b,off,xa,xc,rfl,hb,c0,hx⟩:=HPP.out.atB HBo.out k hlt;have hsm:=hid (HM1.out k hlt);have HNE:Hid (fewObs (s.past[k]?.getD default)=false→false=z):=fun h=>by
    have:=all_not hlt h;simp[HZ.out,this]
   have HEQ:Hid (fewObs (s.past[k]?.getD default)=true→∀j,j<k+1→fewObs (s.past[j]?.getD default)=true):=fun h j hj=>by
    by_cases e:j=k
    ·subst e;exact h
    ·exact HP.out j (by omega)
   have HC:=hid (fun W (h:Below w.heap.size w W)=>q_FewObs (s.past[k]?.getD []) _ W (hx.below h) hsm.out);have hdf:s.past[k]?.getD default=s.past[k]?.getD []:=rfl;rw[hdf]at HNE HEQ;clear hx hdf hsm;generalize s.past[k]?.getD []=x at*
   generalize fewObs x=fx at*
   go_wp2_with fail;refine(HC.out wo HBo.out).mono ?_;rintro e w1 ⟨rfl,hB1⟩;have HB1:=hid (up HB.out hB1);have HBo1:=hid (up HBo.out hB1);clear hB1;dsimp only;cases fx with
   |false=>
    go_wp2_with fail
    go_ret
    exact⟨ret_bool (HNE.out (by simp)),HBo1.out⟩
   |true=>
    go_wp2_with fail
    go_roundw
    case rel=>exact⟨k+1,by omega,by go_num,hid (HEQ.out (by simp)),HB1⟩
    case measure=>simp[intOf];omega
  ·obtain rfl:k=s.past.length:=by omega
   have hlt':¬(s.past.length:Int)<(s.past.length:Int):=by omega
   have HALL:=hid (all_upto fun j hj=>HP.out j hj);clear x1 lx;have lx:=HXo.out.lt;have x1:=HXo.out.cell 1;have x2:=HXo.out.cell 2;simp only[xG,xH,xI]at x1 x2;clear HP;go_wp2_with fail;clear x1 x2 lx;have HZ2:Hid (z=s.fut.all fewObs):=by show _=_;rw[HZ.out,HALL.out];rfl
   clear HZ;have HZ:=HZ2;clear HZ2 HALL;obtain⟨w5,rfl⟩:∃w5:World,w5=wo:=⟨_,rfl⟩;have HX5:=HXo;have HB5:=HBo;clear HXo HBo HB hk0 wk hk;go_loopw [4] (fun i wr=>∃k:Nat,k≤s.fut.length∧i= .int .i64 k∧Hid (∀ j,j<k→fewObs (s.fut[j]?.getD default)=true)∧Hid (Below w5.heap.size w5 wr)) (fun i _=>s.fut.length-(intOf i).toNat);case atStart=>exact⟨0,Nat.zero_le _,rfl,fun j hj=>by omega,Below.refl _ _⟩
   case round=>
    obtain⟨k,hk,rfl,HP,HB⟩:=hrel;obtain⟨wo,rfl⟩:∃wo:World,wo=wr:=⟨_,rfl⟩;have hk0:(0:Int)≤(k:Int):=by omega
    have wk:IntKind.i64.wrap ((k:Int)+1)=(k:Int)+1:=IntWalk.i64_in _ (by omega);have HXo:=hid (HX5.out.below HB.out);have HBo:=hid (up HB5.out HB.out);have lx:=HXo.out.lt;have x1:=HXo.out.cell 2;simp only[xG,xH,xI]at x1;by_cases hlt:k<s.fut.length
    ·have hlt':(k:Int)<(s.fut.length:Int):=by omega
     obtain⟨b,off,xa,xc,rfl,hb,c0,hx⟩:=HFF.out.atB HBo.out k hlt;have hsm:=hid (HM2.out k hlt);have HNE:Hid (fewObs (s.fut[k]?.getD default)=false→false=z):=fun h=>by
      have:=all_not hlt h;simp[HZ.out,this]
     have HEQ:Hid (fewObs (s.fut[k]?.getD default)=true→∀j,j<k+1→fewObs (s.fut[j]?.getD default)=true):=fun h j hj=>by
      by_cases e:j=k
      ·subst e;exact h
      ·exact HP.out j (by omega)
     have HC:=hid (fun W (h:Below w.heap.size w W)=>q_FewObs (s.fut[k]?.getD []) _ W (hx.below h) hsm.out);have hdf:s.fut[k]?.getD default=s.fut[k]?.getD []:=rfl;rw[hdf]at HNE HEQ;clear hx hdf hsm;generalize s.fut[k]?.getD []=x at*
     generalize fewObs x=fx at*
     go_wp2_with fail;refine(HC.out wo HBo.out).mono ?_;rintro e w1 ⟨rfl,hB1⟩;have HB1:=hid (up HB.out hB1);have HBo1:=hid (up HBo.out hB1);clear hB1;dsimp only;cases fx with
     |false=>
      go_wp2_with fail
      go_ret
      exact⟨ret_bool (HNE.out (by simp)),HBo1.out⟩
     |true=>
      go_wp2_with fail
      go_roundw
      case rel=>exact⟨k+1,by omega,by go_num,hid (HEQ.out (by simp)),HB1⟩
      case measure=>simp[intOf];omega
    ·obtain rfl:k=s.fut.length:=by omega
     have hlt':¬(s.fut.length:Int)<(s.fut.length:Int):=by omega
     have HALL:=hid (all_upto fun j hj=>HP.out j hj);clear HP;have hz:Hid (true=z):=by show _=_;rw[HZ.out,HALL.out]
     go_wp2_with fail;go_ret;exact⟨ret_bool hz.out,HBo.out⟩
theorem fewSes_sm (s:Ses)(h:fewSes s=true):SmSes s:=by
 have hob:∀l:List Ob,fewObs l=true→SmObs l:=fun l h k hk=>by
  unfold fewObs at h;simp only[Bool.and_eq_true,List.all_eq_true]at h;have:=h.2 _ (List.getElem_mem hk);unfold fewOb at this;simp only[Bool.and_eq_true,decide_eq_true_eq]at this;simp only[hk,List.getElem?_eq_getElem,Option.getD_some];exact⟨by omega,by omega⟩
 unfold fewSes at h;simp only[Bool.and_eq_true,List.all_eq_true]at h;obtain⟨⟨⟨⟨h1,_⟩,_⟩,h4⟩,h5⟩:=h;refine⟨hob _ h1,fun k hk=> ?_,fun k hk=> ?_⟩
 ·simp only[hk,List.getElem?_eq_getElem,Option.getD_some]
  exact hob _ (h4 _ (List.getElem_mem hk))
 ·simp only[hk,List.getElem?_eq_getElem,Option.getD_some]
  exact hob _ (h5 _ (List.getElem_mem hk))
end Go.Proofs.YtclgllmipcbagaaGreatDoor
