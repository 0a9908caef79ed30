/-
  Parts of the proof: XY7
-/
import Derived.Test.YtclgllmipcbagaaGreatDoorSWk01
namespace Go.Proofs.YtclgllmipcbagaaGreatDoor
open Go.RowKit
set_option linter.unusedVariables false
set_option linter.unusedSimpArgs false
set_option maxRecDepth 100000
set_option maxHeartbeats 16000000
theorem q_named (k:Int)(w:World):Calls Tryz.prog 64 #[.int .i64 k] w fun e w'=>e= .returned (.bool (kName k))∧w'=w:=by
 go_enter Tryz.func64,Tryz.ntmps64;go_wp2_with fail;go_ret;exact⟨rfl,rfl⟩
theorem q_on (k:Int)(w:World):Calls Tryz.prog 65 #[.int .i64 k] w fun e w'=>e= .returned (.bool (kOn k))∧w'=w:=by
 have HZ:Hid (kOn k=((k==1)||(k==5))):=by show _=_;unfold kOn;rw[Bool.eq_iff_iff];simp
 generalize kOn k=z at*
 cases h0:(k==1)with
 |false=>
  go_enter Tryz.func65,Tryz.ntmps65
  go_wp2_with fail
  go_ret
  exact⟨by rw[HZ.out,h0];rfl,rfl⟩
 |true=>
  go_enter Tryz.func65,Tryz.ntmps65
  go_wp2_with fail
  go_ret
  exact⟨by rw[HZ.out,h0];rfl,rfl⟩
theorem q_rooted (k:Int)(w:World):Calls Tryz.prog 60 #[.int .i64 k] w fun e w'=>e= .returned (.bool (kAt k))∧w'=w:=by
 have HZ:Hid (kAt k=((k==3)||(k==4))):=by show _=_;unfold kAt;rw[Bool.eq_iff_iff];simp
 generalize kAt k=z at*
 cases h0:(k==3)with
 |false=>
  go_enter Tryz.func60,Tryz.ntmps60
  go_wp2_with fail
  go_ret
  exact⟨by rw[HZ.out,h0];rfl,rfl⟩
 |true=>
  go_enter Tryz.func60,Tryz.ntmps60
  go_wp2_with fail
  go_ret
  exact⟨by rw[HZ.out,h0];rfl,rfl⟩
theorem q_valued (k:Int)(w:World):Calls Tryz.prog 62 #[.int .i64 k] w fun e w'=>e= .returned (.bool (kVals k))∧w'=w:=by
 have HZ:Hid (kVals k=((k==1)||(k==2))):=by show _=_;unfold kVals;rw[Bool.eq_iff_iff];simp
 generalize kVals k=z at*
 cases h0:(k==1)with
 |false=>
  go_enter Tryz.func62,Tryz.ntmps62
  go_wp2_with fail
  go_ret
  exact⟨by rw[HZ.out,h0];rfl,rfl⟩
 |true=>
  go_enter Tryz.func62,Tryz.ntmps62
  go_wp2_with fail
  go_ret
  exact⟨by rw[HZ.out,h0];rfl,rfl⟩
theorem q_words (c:Cmd)(cv:Value)(w:World)(hc:CmdR w cv c)(hm:SmCmd c):
 Calls Tryz.prog 59 #[cv] w fun e w'=>e= .returned (.int .i64 (wordsErr c))∧Below w.heap.size w w':=by
 obtain⟨ea,ec,va,vc,rfl,he,hv⟩:=hc.form;have HZ:Hid (wordsErr c=if (kName c.kind&&wordErr c.name !=0)=true then wordErr c.name else if (kOn c.kind&&wordErr c.on !=0)=true then wordErr c.on else if kOther c.kind=true then wordErr c.other else 0):=rfl;have HW1:=hid (fun W=>r_Word c.name W hm.1);have HW2:=hid (fun W=>r_Word c.on W hm.2.1);have HW3:=hid (fun W=>r_Word c.other W hm.2.2);have g5:(c.kind==5)=kOther c.kind:=by unfold kOther;rw[Bool.eq_iff_iff];simp
 have HNM:=hid (fun W=>q_named c.kind W);have HON:=hid (fun W=>q_on c.kind W);have HY:=hid (Blk.new w #[.int .i64 c.kind,.string (str c.name),.string (str c.on),.string (str c.other),.int .i64 c.q,.int .i64 c.g.n,.slice ea c.g.es.length ec,.slice va c.vals.length vc] 39);have HB0:Hid (Below w.heap.size w (w.alloc (.cells #[.int .i64 c.kind,.string (str c.name),.string (str c.on),.string (str c.other),.int .i64 c.q,.int .i64 c.g.n,.slice ea c.g.es.length ec,.slice va c.vals.length vc] 39))):=by show Below _ _ _;go_grown
 generalize wordsErr c=z at*
 generalize kName c.kind=nm at*
 generalize kOn c.kind=on at*
 generalize kOther c.kind=ot at*
 generalize wordErr c.name=e1 at*
 generalize wordErr c.on=e2 at*
 generalize wordErr c.other=e3 at*
 clear he hv hc hm;go_enter Tryz.func59,Tryz.ntmps59;go_upto_region 1 with fail;generalize w.alloc (.cells #[.int .i64 c.kind,.string (str c.name),.string (str c.on),.string (str c.other),.int .i64 c.q,.int .i64 c.g.n,.slice ea c.g.es.length ec,.slice va c.vals.length vc] 39)=W0 at*
 have ly:=HY.out.lt;have y0:=HY.out.cell 0;have y1:=HY.out.cell 1;have y2:=HY.out.cell 2;have y3:=HY.out.cell 3;simp only[xG,xH,xI]at y0 y1 y2 y3;go_wp2_with fail;refine(HNM.out _).mono ?_;rintro e w1 ⟨rfl,rfl⟩;dsimp only;cases nm with
 |false=>
  go_wp2_with fail
  refine(HON.out _).mono ?_
  rintro e w1 ⟨rfl,rfl⟩
  dsimp only
  cases on with
  |false=>
   cases ot with
   |false=>
    have hz:0=z:=by rw[HZ.out];simp[]
    go_wp2_with fail
    go_ret
    exact⟨ret_int hz,HB0.out⟩
   |true=>
    go_wp2_with fail
    refine(HW3.out _).mono ?_
    rintro e w1 ⟨rfl,rfl⟩
    dsimp only
    have hz:e3=z:=by rw[HZ.out];simp[]
    go_wp2_with fail
    go_ret
    exact⟨ret_int hz,HB0.out⟩
  |true=>
   go_wp2_with fail
   refine(HW2.out _).mono ?_
   rintro e w1 ⟨rfl,rfl⟩
   dsimp only
   by_cases h2:e2=0
   case neg=>
    have b2:(e2 !=0)=true:=by simpa using h2
    have hz:e2=z:=by rw[HZ.out];simp[h2]
    go_wp2_with fail;go_ret;exact⟨ret_int hz,HB0.out⟩
   case pos=>
    have b2:(e2 !=0)=false:=by simpa using h2
    cases ot with
    |false=>
     have hz:0=z:=by rw[HZ.out];simp[h2]
     go_wp2_with fail
     go_ret
     exact⟨ret_int hz,HB0.out⟩
    |true=>
     go_wp2_with fail
     refine(HW3.out _).mono ?_
     rintro e w1 ⟨rfl,rfl⟩
     dsimp only
     have hz:e3=z:=by rw[HZ.out];simp[h2]
     go_wp2_with fail
     go_ret
     exact⟨ret_int hz,HB0.out⟩
 |true=>
  go_wp2_with fail
  refine(HW1.out _).mono ?_
  rintro e w1 ⟨rfl,rfl⟩
  dsimp only
  by_cases h1:e1=0
  case neg=>
   have b1:(e1 !=0)=true:=by simpa using h1
   have hz:e1=z:=by rw[HZ.out];simp[h1]
   go_wp2_with fail;go_ret;exact⟨ret_int hz,HB0.out⟩
  case pos=>
   have b1:(e1 !=0)=false:=by simpa using h1
   go_wp2_with fail;refine(HON.out _).mono ?_;rintro e w1 ⟨rfl,rfl⟩;dsimp only;cases on with
   |false=>
    cases ot with
    |false=>
     have hz:0=z:=by rw[HZ.out];simp[h1]
     go_wp2_with fail
     go_ret
     exact⟨ret_int hz,HB0.out⟩
    |true=>
     go_wp2_with fail
     refine(HW3.out _).mono ?_
     rintro e w1 ⟨rfl,rfl⟩
     dsimp only
     have hz:e3=z:=by rw[HZ.out];simp[h1]
     go_wp2_with fail
     go_ret
     exact⟨ret_int hz,HB0.out⟩
   |true=>
    go_wp2_with fail
    refine(HW2.out _).mono ?_
    rintro e w1 ⟨rfl,rfl⟩
    dsimp only
    by_cases h2:e2=0
    case neg=>
     have b2:(e2 !=0)=true:=by simpa using h2
     have hz:e2=z:=by rw[HZ.out];simp[h1,h2]
     go_wp2_with fail;go_ret;exact⟨ret_int hz,HB0.out⟩
    case pos=>
     have b2:(e2 !=0)=false:=by simpa using h2
     cases ot with
     |false=>
      have hz:0=z:=by rw[HZ.out];simp[h1,h2]
      go_wp2_with fail
      go_ret
      exact⟨ret_int hz,HB0.out⟩
     |true=>
      go_wp2_with fail
      refine(HW3.out _).mono ?_
      rintro e w1 ⟨rfl,rfl⟩
      dsimp only
      have hz:e3=z:=by rw[HZ.out];simp[h1,h2]
      go_wp2_with fail
      go_ret
      exact⟨ret_int hz,HB0.out⟩
theorem kind_combo (k:Int)(h0:¬k<0)(h8:¬8<k):(kName k=true∧kOn k=false∧kOther k=false∧kAt k=false∧kVals k=false∧(k==0)=true∧(k !=0)=false∧(k !=5)=true)∨(kName k=true∧kOn k=true∧kOther k=false∧kAt k=false∧kVals k=true∧(k==0)=false∧(k !=0)=true∧(k !=5)=true)∨(kName k=true∧kOn k=false∧kOther k=false∧kAt k=false∧kVals k=true∧(k==0)=false∧(k !=0)=true∧(k !=5)=true)∨(kName k=true∧kOn k=false∧kOther k=false∧kAt k=true∧kVals k=false∧(k==0)=false∧(k !=0)=true∧(k !=5)=true)∨(kName k=true∧kOn k=true∧kOther k=true∧kAt k=false∧kVals k=false∧(k==0)=false∧(k !=0)=true∧(k !=5)=false)∨(kName k=true∧kOn k=false∧kOther k=false∧kAt k=false∧kVals k=false∧(k==0)=false∧(k !=0)=true∧(k !=5)=true)∨(kName k=false∧kOn k=false∧kOther k=false∧kAt k=false∧kVals k=false∧(k==0)=false∧(k !=0)=true∧(k !=5)=true):=by
 obtain⟨n,rfl⟩:∃n:Nat,k=(n:Int):=⟨k.toNat,by omega⟩;have hn:n<9:=by omega
 clear h0 h8;match n,hn with
 |0,_=>decide
 |1,_=>decide
 |2,_=>decide
 |3,_=>decide
 |4,_=>decide
 |5,_=>decide
 |6,_=>decide
 |7,_=>decide
 |8,_=>decide
theorem q_Right (c:Cmd)(cv:Value)(w:World)(hc:CmdR w cv c)(hm:SmCmd c):
 Calls Tryz.prog 19 #[cv] w fun e w'=>e= .returned (.int .i64 (rightErr c))∧Below w.heap.size w w':=by
 have HCM:Hid (∀ W,Below w.heap.size w W→CmdR W cv c):=fun W h=>hc.below h;obtain⟨ea,ec,va,vc,rfl,he,hv⟩:=hc.form;have HWD:=hid (fun W (h:Below w.heap.size w W)=>q_words c _ W (HCM.out W h) hm);have HCK:=hid (fun W (h:Below w.heap.size w W)=>r08_Check c.g (.agg #[.int .i64 c.g.n,.slice ea c.g.es.length ec]) W ⟨_,rfl,he.below h⟩);have HPL:=hid (fun W (h:Below w.heap.size w W)=>q_plain c.g (.agg #[.int .i64 c.g.n,.slice ea c.g.es.length ec]) W ⟨_,rfl,he.below h⟩);have HDE:=hid (fun W (h:Below w.heap.size w W)=>r17_Check c.vals (.slice va c.vals.length vc) c.vals.length W (hv.below h));have HNM:=hid (fun W=>q_named c.kind W)
 have HON:=hid (fun W=>q_on c.kind W);have HRT:=hid (fun W=>q_rooted c.kind W);have HVL:=hid (fun W=>q_valued c.kind W);have HZ:Hid (rightErr c=if c.kind<0∨8<c.kind then 1 else if wordsErr c≠0 then wordsErr c else if numsErr c≠0 then numsErr c else if spare c=true then 3 else 0):=rfl;have HNE:Hid (numsErr c=if (kAt c.kind&&(decide (c.q<0)||decide (12≤c.q)))=true then 2 else if ((c.kind==0)&&checkErr c.g !=0)=true then checkErr c.g else if kVals c.kind=false then 0 else if c.vals.length<1∨12<c.vals.length then 8 else dErr c.vals c.vals.length):=by
  show _=_;rw[show (c.kind==0)=decide (c.kind=0) by rw[Bool.eq_iff_iff];simp];rfl
 have HSP:=hid (spare_eq c);unfold spareV at HSP;have i1:=isE c.name;have i2:=isE c.on;have i3:=isE c.other;have i4:(c.q !=0)= !(c.q==0):=rfl;have i6:decide (0<(c.vals.length:Int))= !c.vals.isEmpty:=by cases c.vals<;>simp<;>omega
 have HY:=hid (Blk.new w #[.int .i64 c.kind,.string (str c.name),.string (str c.on),.string (str c.other),.int .i64 c.q,.int .i64 c.g.n,.slice ea c.g.es.length ec,.slice va c.vals.length vc] 39);have HB0:Hid (Below w.heap.size w (w.alloc (.cells #[.int .i64 c.kind,.string (str c.name),.string (str c.on),.string (str c.other),.int .i64 c.q,.int .i64 c.g.n,.slice ea c.g.es.length ec,.slice va c.vals.length vc] 39))):=by show Below _ _ _;go_grown
 generalize rightErr c=z at*
 generalize numsErr c=ne at*
 generalize wordsErr c=we at*
 generalize spare c=sp at*
 generalize checkErr c.g=ck at*
 generalize dErr c.vals c.vals.length=dE at*
 generalize zeroG c.g=zg at*
 generalize c.name.isEmpty=en at*
 generalize c.on.isEmpty=eo at*
 generalize c.other.isEmpty=et at*
 generalize (c.q==0)=qz at*
 have i6N:decide (0<c.vals.length)= !c.vals.isEmpty:=by cases c.vals<;>simp
 generalize c.vals.isEmpty=vz at*
 clear he hv hc hm HCM;generalize c.vals.length=vn at*
 go_enter Tryz.func19,Tryz.ntmps19;go_upto_region 1 with fail;generalize w.alloc (.cells #[.int .i64 c.kind,.string (str c.name),.string (str c.on),.string (str c.other),.int .i64 c.q,.int .i64 c.g.n,.slice ea c.g.es.length ec,.slice va vn vc] 39)=W0 at*
 have ly:=HY.out.lt;obtain⟨y0,y1,y2,y3,y4,y5,y6,y7⟩:=Blk.q8 HY.out;by_cases hk1:c.kind<0
 case pos=>
  have g1:decide (c.kind<0)=true:=by simpa using hk1
  have hz:Hid (1=z):=by show _=_;rw[HZ.out,if_pos (.inl hk1)]
  clear hk1;go_wp2_with fail;go_ret;exact⟨ret_int hz.out,HB0.out⟩
 have g1:decide (c.kind<0)=false:=by simpa using hk1
 by_cases hk2:8<c.kind
 case pos=>
  have g2:decide (8<c.kind)=true:=by simp;omega
  have hz:Hid (1=z):=by show _=_;rw[HZ.out,if_pos (.inr hk2)]
  clear hk1 hk2;go_wp2_with fail;go_ret;exact⟨ret_int hz.out,HB0.out⟩
 have hkey:=kind_combo c.kind hk1 hk2;have g2:decide (8<c.kind)=false:=by simp;omega
 have HZ1:Hid (z=if we≠0 then we else if ne≠0 then ne else if sp=true then 3 else 0):=by show _=_;rw[HZ.out,if_neg (by omega)]
 have HKEY:=hid hkey;clear hkey;clear hk1 hk2 HZ;go_wp2_with fail;refine(HWD.out _ HB0.out).mono ?_;rintro e w1 ⟨rfl,hB1⟩;have HB1:=hid (up HB0.out hB1);have HY1:=hid (HY.out.below hB1);clear hB1 ly y0 y1 y2 y3 y4 y5 y6 y7 HY HB0 HWD g1 g2;dsimp only;by_cases hwe:we=0
 case neg=>
  have b1:(we !=0)=true:=by simpa using hwe
  have hz:we=z:=by rw[HZ1.out];simp[hwe]
  go_wp2_with fail;go_ret;exact⟨ret_int hz,HB1.out⟩
 have b1:(we !=0)=false:=by simpa using hwe
 have HZ2:Hid (z=if ne≠0 then ne else if sp=true then 3 else 0):=by show _=_;rw[HZ1.out,if_neg (by simpa using hwe)]
 clear HZ1 hwe;have ly:=HY1.out.lt;obtain⟨y0,y1,y2,y3,y4,y5,y6,y7⟩:=Blk.q8 HY1.out;obtain⟨n1,n2,n3,n4,n5,n6,n7,n8⟩|⟨n1,n2,n3,n4,n5,n6,n7,n8⟩|⟨n1,n2,n3,n4,n5,n6,n7,n8⟩|⟨n1,n2,n3,n4,n5,n6,n7,n8⟩|⟨n1,n2,n3,n4,n5,n6,n7,n8⟩|⟨n1,n2,n3,n4,n5,n6,n7,n8⟩|⟨n1,n2,n3,n4,n5,n6,n7,n8⟩:=HKEY.out
 ·have HBX:=hid HB1.out
  rw[n1]at HNM;rw[n2]at HON;rw[n4]at HRT;rw[n5]at HVL;rw[n4,n5,n6]at HNE;rw[n1,n2,n3,n4,n5,n6]at HSP;go_wp2_with (first|((first|(go_at_call 64;refine(HNM.out _).mono ?_)|(go_at_call 65;refine(HON.out _).mono ?_)|(go_at_call 60;refine(HRT.out _).mono ?_)|(go_at_call 62;refine(HVL.out _).mono ?_)|(go_at_call 63;refine(HDE.out _ HBX.out).mono ?_));rintro e wq ⟨rfl,rfl⟩)|(go_at_call 66;refine(HPL.out _ HBX.out).mono ?_;rintro e wp ⟨rfl,hBp⟩;have q0:=(Below.cell hBp (p:=⟨w.heap.size,0,none⟩) ly).trans y0;have q7:=(Below.cell hBp (p:=⟨w.heap.size,7,none⟩) ly).trans y7;have HBY:=hid (up HBX.out hBp);clear hBp y0 y1 y2 y3 y4 y5 y6 y7))
  refine(HCK.out _ HBX.out).mono ?_;rintro e w3 ⟨rfl,hB3⟩;have HB3:=hid (up HB1.out hB3);have HY3:=hid (HY1.out.below hB3);clear hB3 ly y0 y1 y2 y3 y4 y5 y6 y7 HB1 HY1 HBX;have HBX:=hid HB3.out;dsimp only;have ly:=HY3.out.lt;obtain⟨y0,y1,y2,y3,y4,y5,y6,y7⟩:=Blk.q8 HY3.out;by_cases p1:ck=0
  case neg=>
   have d1:(ck !=0)=true:=by simpa using p1
   have hn:ne=ck:=by rw[HNE.out];simp[p1]
   have hz:Hid (ck=z):=by show _=_;rw[HZ2.out,hn,if_pos p1]
   go_wp2_with (first|((first|(go_at_call 64;refine(HNM.out _).mono ?_)|(go_at_call 65;refine(HON.out _).mono ?_)|(go_at_call 60;refine(HRT.out _).mono ?_)|(go_at_call 62;refine(HVL.out _).mono ?_)|(go_at_call 63;refine(HDE.out _ HBX.out).mono ?_));rintro e wq ⟨rfl,rfl⟩)|(go_at_call 66;refine(HPL.out _ HBX.out).mono ?_;rintro e wp ⟨rfl,hBp⟩;have q0:=(Below.cell hBp (p:=⟨w.heap.size,0,none⟩) ly).trans y0;have q7:=(Below.cell hBp (p:=⟨w.heap.size,7,none⟩) ly).trans y7;have HBY:=hid (up HBX.out hBp);clear hBp y0 y1 y2 y3 y4 y5 y6 y7));go_ret;exact⟨ret_int (by first|exact hz.out|rfl),by first|exact HBY.out|exact HBX.out⟩
  have d1:(ck !=0)=false:=by simpa using p1
  have hn:ne=0:=by rw[HNE.out];simp[p1]
  have HZ3:Hid (z=if sp=true then 3 else 0):=by show _=_;rw[HZ2.out,hn];rfl
  clear HZ2 hn HNE;cases eo;rotate_left;cases et;rotate_left;cases qz;rotate_left;cases vz;rotate_left;have hv0:vn=0:=by have h:=i6N;simp at h;omega
  subst hv0
  all_goals
   go_wp2_with (first|((first|(go_at_call 64;refine(HNM.out _).mono ?_)|(go_at_call 65;refine(HON.out _).mono ?_)|(go_at_call 60;refine(HRT.out _).mono ?_)|(go_at_call 62;refine(HVL.out _).mono ?_)|(go_at_call 63;refine(HDE.out _ HBX.out).mono ?_));rintro e wq ⟨rfl,rfl⟩)|(go_at_call 66;refine(HPL.out _ HBX.out).mono ?_;rintro e wp ⟨rfl,hBp⟩;have q0:=(Below.cell hBp (p:=⟨w.heap.size,0,none⟩) ly).trans y0;have q7:=(Below.cell hBp (p:=⟨w.heap.size,7,none⟩) ly).trans y7;have HBY:=hid (up HBX.out hBp);clear hBp y0 y1 y2 y3 y4 y5 y6 y7))
   go_ret
   exact⟨ret_int (by rw[HZ3.out,HSP.out];simp),by first|exact HBY.out|exact HBX.out⟩
 ·have HBX:=hid HB1.out
  rw[n1]at HNM;rw[n2]at HON;rw[n4]at HRT;rw[n5]at HVL;rw[n4,n5,n6]at HNE;rw[n1,n2,n3,n4,n5,n6]at HSP;by_cases p1:vn=0
  case pos=>
   subst p1;have hn:ne=8:=by rw[HNE.out];simp
   have hz:Hid (8=z):=by show _=_;rw[HZ2.out,hn];rfl
   go_wp2_with (first|((first|(go_at_call 64;refine(HNM.out _).mono ?_)|(go_at_call 65;refine(HON.out _).mono ?_)|(go_at_call 60;refine(HRT.out _).mono ?_)|(go_at_call 62;refine(HVL.out _).mono ?_)|(go_at_call 63;refine(HDE.out _ HBX.out).mono ?_));rintro e wq ⟨rfl,rfl⟩)|(go_at_call 66;refine(HPL.out _ HBX.out).mono ?_;rintro e wp ⟨rfl,hBp⟩;have q0:=(Below.cell hBp (p:=⟨w.heap.size,0,none⟩) ly).trans y0;have q7:=(Below.cell hBp (p:=⟨w.heap.size,7,none⟩) ly).trans y7;have HBY:=hid (up HBX.out hBp);clear hBp y0 y1 y2 y3 y4 y5 y6 y7));go_ret;exact⟨ret_int (by first|exact hz.out|rfl),by first|exact HBY.out|exact HBX.out⟩
  have d1:decide ((vn:Int)<1)=false:=by first|(simp;done)|(simp;omega)
  have d1n:decide (vn<1)=false:=by first|(simp;done)|(simp;omega)
  have d1z:decide (vn=0)=false:=by simpa using p1
  by_cases p2:12<vn
  case pos=>
   have d2:decide (12<(vn:Int))=true:=by first|(simp;done)|(simp;omega)
   have hq:vn<1∨12<vn:= .inr p2;have hn:ne=8:=by rw[HNE.out];simp only[Bool.false_and,Bool.false_eq_true,if_false,Bool.true_eq_false];exact if_pos hq
   clear hq;have hz:Hid (8=z):=by show _=_;rw[HZ2.out,hn];rfl
   go_wp2_with (first|((first|(go_at_call 64;refine(HNM.out _).mono ?_)|(go_at_call 65;refine(HON.out _).mono ?_)|(go_at_call 60;refine(HRT.out _).mono ?_)|(go_at_call 62;refine(HVL.out _).mono ?_)|(go_at_call 63;refine(HDE.out _ HBX.out).mono ?_));rintro e wq ⟨rfl,rfl⟩)|(go_at_call 66;refine(HPL.out _ HBX.out).mono ?_;rintro e wp ⟨rfl,hBp⟩;have q0:=(Below.cell hBp (p:=⟨w.heap.size,0,none⟩) ly).trans y0;have q7:=(Below.cell hBp (p:=⟨w.heap.size,7,none⟩) ly).trans y7;have HBY:=hid (up HBX.out hBp);clear hBp y0 y1 y2 y3 y4 y5 y6 y7));go_ret;exact⟨ret_int (by first|exact hz.out|rfl),by first|exact HBY.out|exact HBX.out⟩
  have d2:decide (12<(vn:Int))=false:=by first|(simp;done)|(simp;omega)
  have hq:¬(vn<1∨12<vn):=by omega
  have hn:ne=dE:=by rw[HNE.out];simp only[Bool.false_and,Bool.false_eq_true,if_false,Bool.true_eq_false];exact if_neg hq
  clear hq;by_cases p3:dE=0
  case neg=>
   have d3:(dE !=0)=true:=by simpa using p3
   have hz:Hid (dE=z):=by show _=_;rw[HZ2.out,hn,if_pos p3]
   go_wp2_with (first|((first|(go_at_call 64;refine(HNM.out _).mono ?_)|(go_at_call 65;refine(HON.out _).mono ?_)|(go_at_call 60;refine(HRT.out _).mono ?_)|(go_at_call 62;refine(HVL.out _).mono ?_)|(go_at_call 63;refine(HDE.out _ HBX.out).mono ?_));rintro e wq ⟨rfl,rfl⟩)|(go_at_call 66;refine(HPL.out _ HBX.out).mono ?_;rintro e wp ⟨rfl,hBp⟩;have q0:=(Below.cell hBp (p:=⟨w.heap.size,0,none⟩) ly).trans y0;have q7:=(Below.cell hBp (p:=⟨w.heap.size,7,none⟩) ly).trans y7;have HBY:=hid (up HBX.out hBp);clear hBp y0 y1 y2 y3 y4 y5 y6 y7));go_ret;exact⟨ret_int (by first|exact hz.out|rfl),by first|exact HBY.out|exact HBX.out⟩
  have d3:(dE !=0)=false:=by simpa using p3
  rw[p3]at hn;have HZ3:Hid (z=if sp=true then 3 else 0):=by show _=_;rw[HZ2.out,hn];rfl
  clear HZ2 hn HNE;cases et;rotate_left;cases qz;rotate_left;cases zg;rotate_left
  all_goals
   go_wp2_with (first|((first|(go_at_call 64;refine(HNM.out _).mono ?_)|(go_at_call 65;refine(HON.out _).mono ?_)|(go_at_call 60;refine(HRT.out _).mono ?_)|(go_at_call 62;refine(HVL.out _).mono ?_)|(go_at_call 63;refine(HDE.out _ HBX.out).mono ?_));rintro e wq ⟨rfl,rfl⟩)|(go_at_call 66;refine(HPL.out _ HBX.out).mono ?_;rintro e wp ⟨rfl,hBp⟩;have q0:=(Below.cell hBp (p:=⟨w.heap.size,0,none⟩) ly).trans y0;have q7:=(Below.cell hBp (p:=⟨w.heap.size,7,none⟩) ly).trans y7;have HBY:=hid (up HBX.out hBp);clear hBp y0 y1 y2 y3 y4 y5 y6 y7))
   go_ret
   exact⟨ret_int (by rw[HZ3.out,HSP.out];simp),by first|exact HBY.out|exact HBX.out⟩
 ·have HBX:=hid HB1.out
  rw[n1]at HNM;rw[n2]at HON;rw[n4]at HRT;rw[n5]at HVL;rw[n4,n5,n6]at HNE;rw[n1,n2,n3,n4,n5,n6]at HSP;by_cases p1:vn=0
  case pos=>
   subst p1;have hn:ne=8:=by rw[HNE.out];simp
   have hz:Hid (8=z):=by show _=_;rw[HZ2.out,hn];rfl
   go_wp2_with (first|((first|(go_at_call 64;refine(HNM.out _).mono ?_)|(go_at_call 65;refine(HON.out _).mono ?_)|(go_at_call 60;refine(HRT.out _).mono ?_)|(go_at_call 62;refine(HVL.out _).mono ?_)|(go_at_call 63;refine(HDE.out _ HBX.out).mono ?_));rintro e wq ⟨rfl,rfl⟩)|(go_at_call 66;refine(HPL.out _ HBX.out).mono ?_;rintro e wp ⟨rfl,hBp⟩;have q0:=(Below.cell hBp (p:=⟨w.heap.size,0,none⟩) ly).trans y0;have q7:=(Below.cell hBp (p:=⟨w.heap.size,7,none⟩) ly).trans y7;have HBY:=hid (up HBX.out hBp);clear hBp y0 y1 y2 y3 y4 y5 y6 y7));go_ret;exact⟨ret_int (by first|exact hz.out|rfl),by first|exact HBY.out|exact HBX.out⟩
  have d1:decide ((vn:Int)<1)=false:=by first|(simp;done)|(simp;omega)
  have d1n:decide (vn<1)=false:=by first|(simp;done)|(simp;omega)
  have d1z:decide (vn=0)=false:=by simpa using p1
  by_cases p2:12<vn
  case pos=>
   have d2:decide (12<(vn:Int))=true:=by first|(simp;done)|(simp;omega)
   have hq:vn<1∨12<vn:= .inr p2;have hn:ne=8:=by rw[HNE.out];simp only[Bool.false_and,Bool.false_eq_true,if_false,Bool.true_eq_false];exact if_pos hq
   clear hq;have hz:Hid (8=z):=by show _=_;rw[HZ2.out,hn];rfl
   go_wp2_with (first|((first|(go_at_call 64;refine(HNM.out _).mono ?_)|(go_at_call 65;refine(HON.out _).mono ?_)|(go_at_call 60;refine(HRT.out _).mono ?_)|(go_at_call 62;refine(HVL.out _).mono ?_)|(go_at_call 63;refine(HDE.out _ HBX.out).mono ?_));rintro e wq ⟨rfl,rfl⟩)|(go_at_call 66;refine(HPL.out _ HBX.out).mono ?_;rintro e wp ⟨rfl,hBp⟩;have q0:=(Below.cell hBp (p:=⟨w.heap.size,0,none⟩) ly).trans y0;have q7:=(Below.cell hBp (p:=⟨w.heap.size,7,none⟩) ly).trans y7;have HBY:=hid (up HBX.out hBp);clear hBp y0 y1 y2 y3 y4 y5 y6 y7));go_ret;exact⟨ret_int (by first|exact hz.out|rfl),by first|exact HBY.out|exact HBX.out⟩
  have d2:decide (12<(vn:Int))=false:=by first|(simp;done)|(simp;omega)
  have hq:¬(vn<1∨12<vn):=by omega
  have hn:ne=dE:=by rw[HNE.out];simp only[Bool.false_and,Bool.false_eq_true,if_false,Bool.true_eq_false];exact if_neg hq
  clear hq;by_cases p3:dE=0
  case neg=>
   have d3:(dE !=0)=true:=by simpa using p3
   have hz:Hid (dE=z):=by show _=_;rw[HZ2.out,hn,if_pos p3]
   go_wp2_with (first|((first|(go_at_call 64;refine(HNM.out _).mono ?_)|(go_at_call 65;refine(HON.out _).mono ?_)|(go_at_call 60;refine(HRT.out _).mono ?_)|(go_at_call 62;refine(HVL.out _).mono ?_)|(go_at_call 63;refine(HDE.out _ HBX.out).mono ?_));rintro e wq ⟨rfl,rfl⟩)|(go_at_call 66;refine(HPL.out _ HBX.out).mono ?_;rintro e wp ⟨rfl,hBp⟩;have q0:=(Below.cell hBp (p:=⟨w.heap.size,0,none⟩) ly).trans y0;have q7:=(Below.cell hBp (p:=⟨w.heap.size,7,none⟩) ly).trans y7;have HBY:=hid (up HBX.out hBp);clear hBp y0 y1 y2 y3 y4 y5 y6 y7));go_ret;exact⟨ret_int (by first|exact hz.out|rfl),by first|exact HBY.out|exact HBX.out⟩
  have d3:(dE !=0)=false:=by simpa using p3
  rw[p3]at hn;have HZ3:Hid (z=if sp=true then 3 else 0):=by show _=_;rw[HZ2.out,hn];rfl
  clear HZ2 hn HNE;cases eo;rotate_left;cases et;rotate_left;cases qz;rotate_left;cases zg;rotate_left
  all_goals
   go_wp2_with (first|((first|(go_at_call 64;refine(HNM.out _).mono ?_)|(go_at_call 65;refine(HON.out _).mono ?_)|(go_at_call 60;refine(HRT.out _).mono ?_)|(go_at_call 62;refine(HVL.out _).mono ?_)|(go_at_call 63;refine(HDE.out _ HBX.out).mono ?_));rintro e wq ⟨rfl,rfl⟩)|(go_at_call 66;refine(HPL.out _ HBX.out).mono ?_;rintro e wp ⟨rfl,hBp⟩;have q0:=(Below.cell hBp (p:=⟨w.heap.size,0,none⟩) ly).trans y0;have q7:=(Below.cell hBp (p:=⟨w.heap.size,7,none⟩) ly).trans y7;have HBY:=hid (up HBX.out hBp);clear hBp y0 y1 y2 y3 y4 y5 y6 y7))
   go_ret
   exact⟨ret_int (by rw[HZ3.out,HSP.out];simp),by first|exact HBY.out|exact HBX.out⟩
 ·have HBX:=hid HB1.out
  rw[n1]at HNM;rw[n2]at HON;rw[n4]at HRT;rw[n5]at HVL;rw[n4,n5,n6]at HNE;rw[n1,n2,n3,n4,n5,n6]at HSP;by_cases p1:c.q<0
  case pos=>
   have d1:decide (c.q<0)=true:=by simpa using p1
   have hn:ne=2:=by rw[HNE.out];simp[p1]
   have hz:Hid (2=z):=by show _=_;rw[HZ2.out,hn];rfl
   go_wp2_with (first|((first|(go_at_call 64;refine(HNM.out _).mono ?_)|(go_at_call 65;refine(HON.out _).mono ?_)|(go_at_call 60;refine(HRT.out _).mono ?_)|(go_at_call 62;refine(HVL.out _).mono ?_)|(go_at_call 63;refine(HDE.out _ HBX.out).mono ?_));rintro e wq ⟨rfl,rfl⟩)|(go_at_call 66;refine(HPL.out _ HBX.out).mono ?_;rintro e wp ⟨rfl,hBp⟩;have q0:=(Below.cell hBp (p:=⟨w.heap.size,0,none⟩) ly).trans y0;have q7:=(Below.cell hBp (p:=⟨w.heap.size,7,none⟩) ly).trans y7;have HBY:=hid (up HBX.out hBp);clear hBp y0 y1 y2 y3 y4 y5 y6 y7));go_ret;exact⟨ret_int (by first|exact hz.out|rfl),by first|exact HBY.out|exact HBX.out⟩
  have d1:decide (c.q<0)=false:=by simpa using p1
  by_cases p2:12≤c.q
  case pos=>
   have d2:decide (12≤c.q)=true:=by simpa using p2
   have hn:ne=2:=by rw[HNE.out];simp[p2]
   have hz:Hid (2=z):=by show _=_;rw[HZ2.out,hn];rfl
   go_wp2_with (first|((first|(go_at_call 64;refine(HNM.out _).mono ?_)|(go_at_call 65;refine(HON.out _).mono ?_)|(go_at_call 60;refine(HRT.out _).mono ?_)|(go_at_call 62;refine(HVL.out _).mono ?_)|(go_at_call 63;refine(HDE.out _ HBX.out).mono ?_));rintro e wq ⟨rfl,rfl⟩)|(go_at_call 66;refine(HPL.out _ HBX.out).mono ?_;rintro e wp ⟨rfl,hBp⟩;have q0:=(Below.cell hBp (p:=⟨w.heap.size,0,none⟩) ly).trans y0;have q7:=(Below.cell hBp (p:=⟨w.heap.size,7,none⟩) ly).trans y7;have HBY:=hid (up HBX.out hBp);clear hBp y0 y1 y2 y3 y4 y5 y6 y7));go_ret;exact⟨ret_int (by first|exact hz.out|rfl),by first|exact HBY.out|exact HBX.out⟩
  have d2:decide (12≤c.q)=false:=by simpa using p2
  have hn:ne=0:=by rw[HNE.out];simp[p1,p2]
  have HZ3:Hid (z=if sp=true then 3 else 0):=by show _=_;rw[HZ2.out,hn];rfl
  clear HZ2 hn HNE;cases eo;rotate_left;cases et;rotate_left;cases zg;rotate_left;cases vz;rotate_left;have hv0:vn=0:=by have h:=i6N;simp at h;omega
  subst hv0
  all_goals
   go_wp2_with (first|((first|(go_at_call 64;refine(HNM.out _).mono ?_)|(go_at_call 65;refine(HON.out _).mono ?_)|(go_at_call 60;refine(HRT.out _).mono ?_)|(go_at_call 62;refine(HVL.out _).mono ?_)|(go_at_call 63;refine(HDE.out _ HBX.out).mono ?_));rintro e wq ⟨rfl,rfl⟩)|(go_at_call 66;refine(HPL.out _ HBX.out).mono ?_;rintro e wp ⟨rfl,hBp⟩;have q0:=(Below.cell hBp (p:=⟨w.heap.size,0,none⟩) ly).trans y0;have q7:=(Below.cell hBp (p:=⟨w.heap.size,7,none⟩) ly).trans y7;have HBY:=hid (up HBX.out hBp);clear hBp y0 y1 y2 y3 y4 y5 y6 y7))
   go_ret
   exact⟨ret_int (by rw[HZ3.out,HSP.out];simp),by first|exact HBY.out|exact HBX.out⟩
 ·have HBX:=hid HB1.out
  rw[n1]at HNM;rw[n2]at HON;rw[n4]at HRT;rw[n5]at HVL;rw[n4,n5,n6]at HNE;rw[n1,n2,n3,n4,n5,n6]at HSP;have hn:ne=0:=by rw[HNE.out];simp
  have HZ3:Hid (z=if sp=true then 3 else 0):=by show _=_;rw[HZ2.out,hn];rfl
  clear HZ2 hn HNE;cases qz;rotate_left;cases zg;rotate_left;cases vz;rotate_left;have hv0:vn=0:=by have h:=i6N;simp at h;omega
  subst hv0
  all_goals
   go_wp2_with (first|((first|(go_at_call 64;refine(HNM.out _).mono ?_)|(go_at_call 65;refine(HON.out _).mono ?_)|(go_at_call 60;refine(HRT.out _).mono ?_)|(go_at_call 62;refine(HVL.out _).mono ?_)|(go_at_call 63;refine(HDE.out _ HBX.out).mono ?_));rintro e wq ⟨rfl,rfl⟩)|(go_at_call 66;refine(HPL.out _ HBX.out).mono ?_;rintro e wp ⟨rfl,hBp⟩;have q0:=(Below.cell hBp (p:=⟨w.heap.size,0,none⟩) ly).trans y0;have q7:=(Below.cell hBp (p:=⟨w.heap.size,7,none⟩) ly).trans y7;have HBY:=hid (up HBX.out hBp);clear hBp y0 y1 y2 y3 y4 y5 y6 y7))
   go_ret
   exact⟨ret_int (by rw[HZ3.out,HSP.out];simp),by first|exact HBY.out|exact HBX.out⟩
 ·have HBX:=hid HB1.out
  rw[n1]at HNM;rw[n2]at HON;rw[n4]at HRT;rw[n5]at HVL;rw[n4,n5,n6]at HNE;rw[n1,n2,n3,n4,n5,n6]at HSP;have hn:ne=0:=by rw[HNE.out];simp
  have HZ3:Hid (z=if sp=true then 3 else 0):=by show _=_;rw[HZ2.out,hn];rfl
  clear HZ2 hn HNE;cases eo;rotate_left;cases et;rotate_left;cases qz;rotate_left;cases zg;rotate_left;cases vz;rotate_left;have hv0:vn=0:=by have h:=i6N;simp at h;omega
  subst hv0
  all_goals
   go_wp2_with (first|((first|(go_at_call 64;refine(HNM.out _).mono ?_)|(go_at_call 65;refine(HON.out _).mono ?_)|(go_at_call 60;refine(HRT.out _).mono ?_)|(go_at_call 62;refine(HVL.out _).mono ?_)|(go_at_call 63;refine(HDE.out _ HBX.out).mono ?_));rintro e wq ⟨rfl,rfl⟩)|(go_at_call 66;refine(HPL.out _ HBX.out).mono ?_;rintro e wp ⟨rfl,hBp⟩;have q0:=(Below.cell hBp (p:=⟨w.heap.size,0,none⟩) ly).trans y0;have q7:=(Below.cell hBp (p:=⟨w.heap.size,7,none⟩) ly).trans y7;have HBY:=hid (up HBX.out hBp);clear hBp y0 y1 y2 y3 y4 y5 y6 y7))
   go_ret
   exact⟨ret_int (by rw[HZ3.out,HSP.out];simp),by first|exact HBY.out|exact HBX.out⟩
 ·have HBX:=hid HB1.out
  rw[n1]at HNM;rw[n2]at HON;rw[n4]at HRT;rw[n5]at HVL;rw[n4,n5,n6]at HNE;rw[n1,n2,n3,n4,n5,n6]at HSP;have hn:ne=0:=by rw[HNE.out];simp
  have HZ3:Hid (z=if sp=true then 3 else 0):=by show _=_;rw[HZ2.out,hn];rfl
  clear HZ2 hn HNE;cases en;rotate_left;cases eo;rotate_left;cases et;rotate_left;cases qz;rotate_left;cases zg;rotate_left;cases vz;rotate_left;have hv0:vn=0:=by have h:=i6N;simp at h;omega
  subst hv0
  all_goals
   go_wp2_with (first|((first|(go_at_call 64;refine(HNM.out _).mono ?_)|(go_at_call 65;refine(HON.out _).mono ?_)|(go_at_call 60;refine(HRT.out _).mono ?_)|(go_at_call 62;refine(HVL.out _).mono ?_)|(go_at_call 63;refine(HDE.out _ HBX.out).mono ?_));rintro e wq ⟨rfl,rfl⟩)|(go_at_call 66;refine(HPL.out _ HBX.out).mono ?_;rintro e wp ⟨rfl,hBp⟩;have q0:=(Below.cell hBp (p:=⟨w.heap.size,0,none⟩) ly).trans y0;have q7:=(Below.cell hBp (p:=⟨w.heap.size,7,none⟩) ly).trans y7;have HBY:=hid (up HBX.out hBp);clear hBp y0 y1 y2 y3 y4 y5 y6 y7))
   go_ret
   exact⟨ret_int (by rw[HZ3.out,HSP.out];simp),by first|exact HBY.out|exact HBX.out⟩
end Go.Proofs.YtclgllmipcbagaaGreatDoor
