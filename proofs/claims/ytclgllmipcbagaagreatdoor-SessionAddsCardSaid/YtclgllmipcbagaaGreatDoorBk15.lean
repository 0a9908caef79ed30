/-
  Parts of the proof: XS6 XS7 XS8 XS9 XS10
-/
import Derived.Test.YtclgllmipcbagaaGreatDoorBk14
import Derived.Test.YtclgllmipcbagaaGreatDoorBk07
import Derived.Test.YtclgllmipcbagaaGreatDoorBk02
namespace Go.Proofs.YtclgllmipcbagaaGreatDoor
open Go.RowKit
set_option linter.unusedVariables false
set_option linter.unusedSimpArgs false
set_option maxRecDepth 100000
set_option maxHeartbeats 16000000
theorem q_object (l:List Ob)(v:Value)(k:Nat)(w:World)(hl:ObsR w v l)(hs:SmObs l)(hlt:k<l.length):
 Calls Tryz.prog 121 #[v,.int .i64 k] w fun e w'=>e= .returned (.int .i64 (obAt l k))∧Below w.heap.size w w':=by
 obtain⟨a,cap,rfl,hcap,hcm,hlen⟩:=hl.form;have HL:=hid hl;have hsn:=(hs k hlt).1;have hso:=(hs k hlt).2;have hIs:=hid (fun (W:World) (h:ObsR W (.slice a l.length cap) l)=>q_Is l _ (l[k]?.getD default).on W h);have hPl:=hid (fun (W:World) (h:ObsR W (.slice a l.length cap) l)=>q_Place l _ (l[k]?.getD default).on W h);generalize hz:obAt l k=z;unfold obAt at hz;have hlt':(k:Int)<(l.length:Int):=by omega
 have hk0:(0:Int)≤(k:Int):=by omega
 obtain⟨b,off,ea,ec,da,dc,rfl,hb,c0,c1,c2,c3,c4,he,hd⟩:=hl.atB (Below.refl _ _) _ hlt;have HXD:=hid hd;have HXG:Hid (GrR w (.agg #[.int .i64 (l[k]?.getD default).g.n,.slice ea (l[k]?.getD default).g.es.length ec]) (l[k]?.getD default).g):=⟨_,rfl,he⟩;have hw:=hid (r_Word (l[k]?.getD default).name);by_cases hkz:k=0
 case pos=>
  have hkp:decide (0<k)=false:=by simp[hkz]
  have hg:(decide (0<k)&&leN (l[k]?.getD default).name (l[k-1]?.getD default).name)=false:=by rw[hkp];rfl
  rw[hg]at hz;clear he hd hl hs hkz hg;generalize (l[k]?.getD default)=x at*
  by_cases hwz:wordErr x.name=0
  case neg=>
   have hwb:(wordErr x.name !=0)=true:=by simpa using hwz
   rw[if_pos hwz]at hz;subst hz;clear HXD HXG hIs hPl;go_enter Tryz.func121,Tryz.ntmps121;go_wp2_with (go_at_call 105;refine(hw.out _ (by omega)).mono ?_;rintro e w1 ⟨rfl,rfl⟩);go_ret;exact⟨rfl,by go_grown⟩
  case pos=>
   have hwb:(wordErr x.name !=0)=false:=by simpa using hwz
   rw[if_neg (by simpa using hwz),if_neg (by simp)]at hz;have hon:=isE x.on;unfold obErr at hz;by_cases hx:x.on=[]
   case pos=>
    rw[if_pos hx]at hz;replace hon:(str x.on).toList.isEmpty=true:=by rw[hon,hx];rfl
    clear hx hPl hIs;generalize str x.on=so at*
    by_cases hc:checkErr x.g=0
    case neg=>
     have hb:(checkErr x.g !=0)=true:=by simpa using hc
     rw[if_pos (by simpa using hc)]at hz;have HZ:=hid hz;clear hz hc;go_enter Tryz.func121,Tryz.ntmps121;go_upto_region 5 with (go_at_call 105;refine(hw.out _ (by omega)).mono ?_;rintro e w1 ⟨rfl,rfl⟩);go_quiet (fail);go_wp2_with (go_at_call 61;refine(r08_Check x.g _ _ (HXG.out.below ?hb)).mono ?_;(case hb=>exact(below_dN (by go_grown) _));rintro e w1 ⟨rfl,hB1⟩;obtain⟨r1,r2⟩:=bcell hB1;have hs1:=hB1.size;(simp at hs1);have u1:w.heap.size<w1.heap.size:=(by omega));go_ret;exact⟨ret_int HZ.out,up (below_dN (by go_grown) _) hB1⟩
    case pos=>
     have hb:(checkErr x.g !=0)=false:=by simpa using hc
     rw[if_neg (by simpa using hc)]at hz;clear hc;by_cases hd0:(0:Int)<x.d.length
     case pos=>
      rw[if_pos (by intro h;rw[h]at hd0;simp at hd0)]at hz;have HZ:=hid hz;clear hz;go_enter Tryz.func121,Tryz.ntmps121;go_upto_region 5 with (go_at_call 105;refine(hw.out _ (by omega)).mono ?_;rintro e w1 ⟨rfl,rfl⟩);go_quiet (fail);go_wp2_with (go_at_call 61;refine(r08_Check x.g _ _ (HXG.out.below ?hb)).mono ?_;(case hb=>exact(below_dN (by go_grown) _));rintro e w1 ⟨rfl,hB1⟩;obtain⟨r1,r2⟩:=bcell hB1;have hs1:=hB1.size;(simp at hs1);have u1:w.heap.size<w1.heap.size:=(by omega));go_ret;exact⟨ret_int HZ.out,up (below_dN (by go_grown) _) hB1⟩
     case neg=>
      have h0:x.d=[]:=by simpa using hd0
      rw[if_neg (by simpa using h0)]at hz;have HZ:=hid hz;clear hz h0;go_enter Tryz.func121,Tryz.ntmps121;go_upto_region 5 with (go_at_call 105;refine(hw.out _ (by omega)).mono ?_;rintro e w1 ⟨rfl,rfl⟩);go_quiet (fail);go_wp2_with (go_at_call 61;refine(r08_Check x.g _ _ (HXG.out.below ?hb)).mono ?_;(case hb=>exact(below_dN (by go_grown) _));rintro e w1 ⟨rfl,hB1⟩;obtain⟨r1,r2⟩:=bcell hB1;have hs1:=hB1.size;(simp at hs1);have u1:w.heap.size<w1.heap.size:=(by omega));go_ret;exact⟨ret_int HZ.out,up (below_dN (by go_grown) _) hB1⟩
   case neg=>
    rw[if_neg hx]at hz;have hne:x.on.isEmpty=false:=by simpa using hx
    rw[hne]at hon;have hPN:=plI_lt (l:=l) (n:=x.on);clear hx hne;cases hg:isG l x.on with
    |false=>
     rw[if_pos hg]at hz
     have HZ:=hid hz
     clear hz hPl hPN
     generalize str x.on=so at*
     go_enter Tryz.func121,Tryz.ntmps121
     go_upto_region 5 with (go_at_call 105;refine(hw.out _ (by omega)).mono ?_;rintro e w1 ⟨rfl,rfl⟩)
     go_quiet (fail)
     go_wp2_with (go_at_call 154;refine(hIs.out _ (HL.out.below ?hb)).mono ?_;(case hb=>exact(below_dN (by go_grown) _));rintro e w1 ⟨rfl,hB1⟩;rw[hg];obtain⟨r1,r2⟩:=bcell hB1;have hs1:=hB1.size;(simp at hs1);have u1:w.heap.size<w1.heap.size:=(by omega);have u2:b<w1.heap.size:=(by omega);have HW1:Hid (Below w.heap.size w w1):=(show Below w.heap.size w w1 from up (below_dN (by go_grown) _) hB1);clear hB1)
     go_ret
     exact⟨ret_int HZ.out,HW1.out⟩
    |true=>
     rw[if_neg (by rw[hg];simp)]at hz
     have hPL:plN l x.on<l.length:=by
      unfold isG at hg;simp only[Bool.and_eq_true,decide_eq_true_eq]at hg;exact hg.1
     have hPI:=hPN hPL
     obtain⟨b',off',_,_,_,_,e,_,_,_,p2,_⟩:=HL.out.atB (Below.refl _ _) _ hPL
     injection e with e
     injection e with e1 e2
     subst e1 e2
     have hPl2:Hid (∀ W:World,ObsR W (.slice (some ⟨b,off,none⟩) l.length cap) l→Calls Tryz.prog 48 #[.slice (some ⟨b,off,none⟩) l.length cap,.string (str x.on)] W fun e w'=>e= .returned (.int .i64 ((plN l x.on:Nat):Int))∧w'=W):=by
      intro W h;have:=hPl.out W h;rw[hPI]at this;exact this
     have HGN:Hid ((l[plN l x.on]?.getD default).g.n=(obOf l x.on).g.n):=rfl
     have hpl':((plN l x.on:Nat):Int)<(l.length:Int):=by omega
     have hp0:(0:Int)≤((plN l x.on:Nat):Int):=by omega
     clear hPl hPN hPI hPL
     generalize (l[plN l x.on]?.getD default).g.n=gn at*
     generalize plN l x.on=pn at*
     cases hzg:zeroG x.g with
     |false=>
      rw[if_pos hzg]at hz
      have HZ:=hid hz
      clear hz hPl2
      generalize str x.on=so at*
      go_enter Tryz.func121,Tryz.ntmps121
      go_upto_region 5 with (go_at_call 105;refine(hw.out _ (by omega)).mono ?_;rintro e w1 ⟨rfl,rfl⟩)
      go_quiet (fail)
      go_wp2_with (first|(go_at_call 154;refine(hIs.out _ (HL.out.below ?hb)).mono ?_;(case hb=>exact(below_dN (by go_grown) _));rintro e w1 ⟨rfl,hB1⟩;rw[hg];obtain⟨r1,r2⟩:=bcell hB1;have hs1:=hB1.size;(simp at hs1);have u1:w.heap.size<w1.heap.size:=(by omega);have u2:b<w1.heap.size:=(by omega);have HW1:Hid (Below w.heap.size w w1):=(show Below w.heap.size w w1 from up (below_dN (by go_grown) _) hB1);clear hB1)|(go_at_call 66;refine(q_plain x.g _ _ (HXG.out.below ?hb)).mono ?_;(case hb=>exact HW1.out);rintro e w2 ⟨rfl,hB2⟩;rw[hzg];obtain⟨r3,r4⟩:=bcell hB2;have hs2:=hB2.size;have u3:w.heap.size<w2.heap.size:=(by omega);have u4:b<w2.heap.size:=(by omega);have HW2:Hid (Below w.heap.size w w2):=(show Below w.heap.size w w2 from up HW1.out hB2);clear hB2))
      go_ret
      exact⟨ret_int HZ.out,HW2.out⟩
     |true=>
      rw[if_neg (by rw[hzg];simp)]at hz
      have HZ:=hid hz
      clear hz
      generalize str x.on=so at*
      go_enter Tryz.func121,Tryz.ntmps121
      go_upto_region 5 with (go_at_call 105;refine(hw.out _ (by omega)).mono ?_;rintro e w1 ⟨rfl,rfl⟩)
      go_quiet (fail)
      go_upto_region 18 with (first|(go_at_call 154;refine(hIs.out _ (HL.out.below ?hb)).mono ?_;(case hb=>exact(below_dN (by go_grown) _));rintro e w1 ⟨rfl,hB1⟩;rw[hg];obtain⟨r1,r2⟩:=bcell hB1;have hs1:=hB1.size;(simp at hs1);have u1:w.heap.size<w1.heap.size:=(by omega);have u2:b<w1.heap.size:=(by omega);have HW1:Hid (Below w.heap.size w w1):=(show Below w.heap.size w w1 from up (below_dN (by go_grown) _) hB1);clear hB1)|(go_at_call 66;refine(q_plain x.g _ _ (HXG.out.below ?hb)).mono ?_;(case hb=>exact HW1.out);rintro e w2 ⟨rfl,hB2⟩;rw[hzg];obtain⟨r3,r4⟩:=bcell hB2;have hs2:=hB2.size;have u3:w.heap.size<w2.heap.size:=(by omega);have u4:b<w2.heap.size:=(by omega);have HW2:Hid (Below w.heap.size w w2):=(show Below w.heap.size w w2 from up HW1.out hB2);clear hB2))
      go_quiet (first|(go_at_call 48;exact Calls.quiet_of_same (hPl2.out _ (HL.out.below (below_dN HW2.out _))))|(go_at_call 63;exact Calls.quiet_of_same ((r17_Check x.d _ _ _ (HXD.out.below (below_dN HW2.out _))).mono fun _ _ h=>⟨h.1,h.2.symm⟩)))
      go_wp2_with fail
      go_ret
      exact⟨ret_int (by rw[← HZ.out,←HGN.out]),below_dN HW2.out _⟩
 case neg=>
  obtain⟨j,hj⟩:∃j:Nat,(k:Int)-1=(j:Int):=⟨k-1,by omega⟩;have hkp:decide (0<k)=true:=by simp;omega
  have hj1:k-1=j:=by omega
  have hjl:j<l.length:=by omega
  have hjl':(j:Int)<(l.length:Int):=by omega
  have hj0:(0:Int)≤(j:Int):=by omega
  have wj:IntKind.i64.wrap ((k:Int)-1)=(j:Int):=by rw[hj];exact IntWalk.i64_in _ (by omega)
  obtain⟨b',off',_,_,_,_,e,_,p0,_⟩:=HL.out.atB (Below.refl _ _) j hjl;injection e with e
  injection e with e1 e2
  subst e1 e2;rw[hj1,hkp,Bool.true_and]at hz;clear he hd hl hs hkz;generalize (l[j]?.getD default)=y at*
  generalize (l[k]?.getD default)=x at*
  by_cases hwz:wordErr x.name=0
  case neg=>
   have hwb:(wordErr x.name !=0)=true:=by simpa using hwz
   rw[if_pos hwz]at hz;subst hz;clear HXD HXG hIs hPl;go_enter Tryz.func121,Tryz.ntmps121;go_wp2_with (go_at_call 105;refine(hw.out _ (by omega)).mono ?_;rintro e w1 ⟨rfl,rfl⟩);go_ret;exact⟨rfl,by go_grown⟩
  case pos=>
   have hwb:(wordErr x.name !=0)=false:=by simpa using hwz
   rw[if_neg (by simpa using hwz)]at hz;cases hle:leN x.name y.name with
   |true=>
    have hll:=(leN_str x.name y.name).trans hle
    rw[hle,if_pos rfl]at hz
    subst hz
    clear HXD HXG hIs hPl
    go_enter Tryz.func121,Tryz.ntmps121
    go_upto_region 5 with (go_at_call 105;refine(hw.out _ (by omega)).mono ?_;rintro e w1 ⟨rfl,rfl⟩)
    go_quiet (fail)
    go_wp2_with fail
    go_ret
    exact⟨rfl,below_dN (by go_grown) _⟩
   |false=>
    have hll:=(leN_str x.name y.name).trans hle
    rw[hle,if_neg (by simp)]at hz
    have hon:=isE x.on
    unfold obErr at hz
    by_cases hx:x.on=[]
    case pos=>
     rw[if_pos hx]at hz;replace hon:(str x.on).toList.isEmpty=true:=by rw[hon,hx];rfl
     clear hx hPl hIs;generalize str x.on=so at*
     by_cases hc:checkErr x.g=0
     case neg=>
      have hb:(checkErr x.g !=0)=true:=by simpa using hc
      rw[if_pos (by simpa using hc)]at hz;have HZ:=hid hz;clear hz hc;go_enter Tryz.func121,Tryz.ntmps121;go_upto_region 5 with (go_at_call 105;refine(hw.out _ (by omega)).mono ?_;rintro e w1 ⟨rfl,rfl⟩);go_quiet (fail);go_wp2_with (go_at_call 61;refine(r08_Check x.g _ _ (HXG.out.below ?hb)).mono ?_;(case hb=>exact(below_dN (by go_grown) _));rintro e w1 ⟨rfl,hB1⟩;obtain⟨r1,r2⟩:=bcell hB1;have hs1:=hB1.size;(simp at hs1);have u1:w.heap.size<w1.heap.size:=(by omega));go_ret;exact⟨ret_int HZ.out,up (below_dN (by go_grown) _) hB1⟩
     case pos=>
      have hb:(checkErr x.g !=0)=false:=by simpa using hc
      rw[if_neg (by simpa using hc)]at hz;clear hc;by_cases hd0:(0:Int)<x.d.length
      case pos=>
       rw[if_pos (by intro h;rw[h]at hd0;simp at hd0)]at hz;have HZ:=hid hz;clear hz;go_enter Tryz.func121,Tryz.ntmps121;go_upto_region 5 with (go_at_call 105;refine(hw.out _ (by omega)).mono ?_;rintro e w1 ⟨rfl,rfl⟩);go_quiet (fail);go_wp2_with (go_at_call 61;refine(r08_Check x.g _ _ (HXG.out.below ?hb)).mono ?_;(case hb=>exact(below_dN (by go_grown) _));rintro e w1 ⟨rfl,hB1⟩;obtain⟨r1,r2⟩:=bcell hB1;have hs1:=hB1.size;(simp at hs1);have u1:w.heap.size<w1.heap.size:=(by omega));go_ret;exact⟨ret_int HZ.out,up (below_dN (by go_grown) _) hB1⟩
      case neg=>
       have h0:x.d=[]:=by simpa using hd0
       rw[if_neg (by simpa using h0)]at hz;have HZ:=hid hz;clear hz h0;go_enter Tryz.func121,Tryz.ntmps121;go_upto_region 5 with (go_at_call 105;refine(hw.out _ (by omega)).mono ?_;rintro e w1 ⟨rfl,rfl⟩);go_quiet (fail);go_wp2_with (go_at_call 61;refine(r08_Check x.g _ _ (HXG.out.below ?hb)).mono ?_;(case hb=>exact(below_dN (by go_grown) _));rintro e w1 ⟨rfl,hB1⟩;obtain⟨r1,r2⟩:=bcell hB1;have hs1:=hB1.size;(simp at hs1);have u1:w.heap.size<w1.heap.size:=(by omega));go_ret;exact⟨ret_int HZ.out,up (below_dN (by go_grown) _) hB1⟩
    case neg=>
     rw[if_neg hx]at hz;have hne:x.on.isEmpty=false:=by simpa using hx
     rw[hne]at hon;have hPN:=plI_lt (l:=l) (n:=x.on);clear hx hne;cases hg:isG l x.on with
     |false=>
      rw[if_pos hg]at hz
      have HZ:=hid hz
      clear hz hPl hPN
      generalize str x.on=so at*
      go_enter Tryz.func121,Tryz.ntmps121
      go_upto_region 5 with (go_at_call 105;refine(hw.out _ (by omega)).mono ?_;rintro e w1 ⟨rfl,rfl⟩)
      go_quiet (fail)
      go_wp2_with (go_at_call 154;refine(hIs.out _ (HL.out.below ?hb)).mono ?_;(case hb=>exact(below_dN (by go_grown) _));rintro e w1 ⟨rfl,hB1⟩;rw[hg];obtain⟨r1,r2⟩:=bcell hB1;have hs1:=hB1.size;(simp at hs1);have u1:w.heap.size<w1.heap.size:=(by omega);have u2:b<w1.heap.size:=(by omega);have HW1:Hid (Below w.heap.size w w1):=(show Below w.heap.size w w1 from up (below_dN (by go_grown) _) hB1);clear hB1)
      go_ret
      exact⟨ret_int HZ.out,HW1.out⟩
     |true=>
      rw[if_neg (by rw[hg];simp)]at hz
      have hPL:plN l x.on<l.length:=by
       unfold isG at hg;simp only[Bool.and_eq_true,decide_eq_true_eq]at hg;exact hg.1
      have hPI:=hPN hPL
      obtain⟨b',off',_,_,_,_,e,_,_,_,p2,_⟩:=HL.out.atB (Below.refl _ _) _ hPL
      injection e with e
      injection e with e1 e2
      subst e1 e2
      have hPl2:Hid (∀ W:World,ObsR W (.slice (some ⟨b,off,none⟩) l.length cap) l→Calls Tryz.prog 48 #[.slice (some ⟨b,off,none⟩) l.length cap,.string (str x.on)] W fun e w'=>e= .returned (.int .i64 ((plN l x.on:Nat):Int))∧w'=W):=by
       intro W h;have:=hPl.out W h;rw[hPI]at this;exact this
      have HGN:Hid ((l[plN l x.on]?.getD default).g.n=(obOf l x.on).g.n):=rfl
      have hpl':((plN l x.on:Nat):Int)<(l.length:Int):=by omega
      have hp0:(0:Int)≤((plN l x.on:Nat):Int):=by omega
      clear hPl hPN hPI hPL
      generalize (l[plN l x.on]?.getD default).g.n=gn at*
      generalize plN l x.on=pn at*
      cases hzg:zeroG x.g with
      |false=>
       rw[if_pos hzg]at hz
       have HZ:=hid hz
       clear hz hPl2
       generalize str x.on=so at*
       go_enter Tryz.func121,Tryz.ntmps121
       go_upto_region 5 with (go_at_call 105;refine(hw.out _ (by omega)).mono ?_;rintro e w1 ⟨rfl,rfl⟩)
       go_quiet (fail)
       go_wp2_with (first|(go_at_call 154;refine(hIs.out _ (HL.out.below ?hb)).mono ?_;(case hb=>exact(below_dN (by go_grown) _));rintro e w1 ⟨rfl,hB1⟩;rw[hg];obtain⟨r1,r2⟩:=bcell hB1;have hs1:=hB1.size;(simp at hs1);have u1:w.heap.size<w1.heap.size:=(by omega);have u2:b<w1.heap.size:=(by omega);have HW1:Hid (Below w.heap.size w w1):=(show Below w.heap.size w w1 from up (below_dN (by go_grown) _) hB1);clear hB1)|(go_at_call 66;refine(q_plain x.g _ _ (HXG.out.below ?hb)).mono ?_;(case hb=>exact HW1.out);rintro e w2 ⟨rfl,hB2⟩;rw[hzg];obtain⟨r3,r4⟩:=bcell hB2;have hs2:=hB2.size;have u3:w.heap.size<w2.heap.size:=(by omega);have u4:b<w2.heap.size:=(by omega);have HW2:Hid (Below w.heap.size w w2):=(show Below w.heap.size w w2 from up HW1.out hB2);clear hB2))
       go_ret
       exact⟨ret_int HZ.out,HW2.out⟩
      |true=>
       rw[if_neg (by rw[hzg];simp)]at hz
       have HZ:=hid hz
       clear hz
       generalize str x.on=so at*
       go_enter Tryz.func121,Tryz.ntmps121
       go_upto_region 5 with (go_at_call 105;refine(hw.out _ (by omega)).mono ?_;rintro e w1 ⟨rfl,rfl⟩)
       go_quiet (fail)
       go_upto_region 18 with (first|(go_at_call 154;refine(hIs.out _ (HL.out.below ?hb)).mono ?_;(case hb=>exact(below_dN (by go_grown) _));rintro e w1 ⟨rfl,hB1⟩;rw[hg];obtain⟨r1,r2⟩:=bcell hB1;have hs1:=hB1.size;(simp at hs1);have u1:w.heap.size<w1.heap.size:=(by omega);have u2:b<w1.heap.size:=(by omega);have HW1:Hid (Below w.heap.size w w1):=(show Below w.heap.size w w1 from up (below_dN (by go_grown) _) hB1);clear hB1)|(go_at_call 66;refine(q_plain x.g _ _ (HXG.out.below ?hb)).mono ?_;(case hb=>exact HW1.out);rintro e w2 ⟨rfl,hB2⟩;rw[hzg];obtain⟨r3,r4⟩:=bcell hB2;have hs2:=hB2.size;have u3:w.heap.size<w2.heap.size:=(by omega);have u4:b<w2.heap.size:=(by omega);have HW2:Hid (Below w.heap.size w w2):=(show Below w.heap.size w w2 from up HW1.out hB2);clear hB2))
       go_quiet (first|(go_at_call 48;exact Calls.quiet_of_same (hPl2.out _ (HL.out.below (below_dN HW2.out _))))|(go_at_call 63;exact Calls.quiet_of_same ((r17_Check x.d _ _ _ (HXD.out.below (below_dN HW2.out _))).mono fun _ _ h=>⟨h.1,h.2.symm⟩)))
       go_wp2_with fail
       go_ret
       exact⟨ret_int (by rw[← HZ.out,←HGN.out]),below_dN HW2.out _⟩
theorem q_objects (l:List Ob)(v:Value)(w:World)(hl:ObsR w v l)(ho:∀k,k<l.length→∀W,Below w.heap.size w W→Calls Tryz.prog 121 #[v,.int .i64 k] W fun e w'=>e= .returned (.int .i64 (obAt l k))∧Below W.heap.size W w'):
 Calls Tryz.prog 74 #[v] w fun e w'=>e= .returned (.int .i64 (obsErr l))∧Below w.heap.size w w':=by
 obtain⟨a,cap,rfl,hcap,hcm,hlen⟩:=hl.form;generalize hz:obsErr l=z;unfold obsErr at hz;have HO:=hid ho;clear hl ho;by_cases h1:32<l.length
 ·rw[if_pos h1]at hz
  subst hz;have h1':(32:Int)<l.length:=by omega
  go_enter Tryz.func74,Tryz.ntmps74;go_wp2_with fail;all_goals(go_ret;exact⟨rfl,Below.refl _ _⟩)
 rw[if_neg h1]at hz;have h1':¬(32:Int)<l.length:=by omega
 have HZ:=hid hz;clear hz;go_enter Tryz.func74,Tryz.ntmps74;go_wp2_with fail
 go_loopw [3] (fun i wr=>∃k:Nat,k≤l.length∧i= .int .i64 k∧Hid (fstE (obAt l) k (l.length-k)=z)∧Hid (Below w.heap.size w wr))
  (fun i _=>l.length-(intOf i).toNat)
 case atStart=>exact⟨0,Nat.zero_le _,rfl,HZ,Below.refl _ _⟩
 case round=>
  obtain⟨k,hk,rfl,HZ,HB⟩:=hrel;obtain⟨wo,rfl⟩:∃wo:World,wo=wr:=⟨_,rfl⟩;have wk:IntKind.i64.wrap ((k:Int)+1)=(k:Int)+1:=IntWalk.i64_in _ (by omega);by_cases hlt:k<l.length
  ·have hlt':(k:Int)<(l.length:Int):=by omega
   have HFS:=hid (fstE_step (f:=obAt l) hlt);have hc:=hid (HO.out k hlt _ HB.out);generalize obAt l k=oa at*
   by_cases hoz:oa=0
   case neg=>
    have hob:(oa !=0)=true:=by simpa using hoz
    go_wp2_with (go_at_call 121;refine hc.out.mono ?_;rintro e w2 ⟨rfl,hB2⟩);go_ret;exact⟨ret_int (by rw[← HZ.out,HFS.out,if_pos hoz]),up HB.out hB2⟩
   case pos=>
    have hob:(oa !=0)=false:=by simpa using hoz
    go_wp2_with (go_at_call 121;refine hc.out.mono ?_;rintro e w2 ⟨rfl,hB2⟩);go_roundw;case rel=>exact⟨k+1,by omega,by go_num,hid (by have:=HZ.out;rw[HFS.out,if_neg (by simpa using hoz)]at this;exact this),up HB.out hB2⟩
    case measure=>simp[intOf];omega
  ·have hlt':¬(k:Int)<(l.length:Int):=by omega
   go_wp2_with fail;go_ret;exact⟨ret_int (by have:=HZ.out;rw[show l.length-k=0 by omega]at this;exact this),HB.out⟩
theorem q_objs (l:List Ob)(v:Value)(w:World)(hl:ObsR w v l)(hs:SmObs l):
 Calls Tryz.prog 74 #[v] w fun e w'=>e= .returned (.int .i64 (obsErr l))∧Below w.heap.size w w':=
 q_objects l v w hl fun k hk W hW=>q_object l v k W (hl.below hW) hs hk
theorem q_lists (ls:List (List Ob))(v:Value)(w:World)(hl:LsoR w v ls)(hs:SmLs ls):
 Calls Tryz.prog 75 #[v] w fun e w'=>e= .returned (.int .i64 (lsErr ls))∧Below w.heap.size w w':=by
 obtain⟨a,cap,rfl,hcap,hcm,hlen⟩:=hl.form;generalize hz:lsErr ls=z;unfold lsErr at hz;have HL:=hid hl;have HSL:=hid hs;clear hl hs;by_cases h1:64<ls.length
 ·rw[if_pos h1]at hz
  subst hz;have h1':(64:Int)<ls.length:=by omega
  go_enter Tryz.func75,Tryz.ntmps75;go_wp2_with fail;all_goals(go_ret;exact⟨rfl,Below.refl _ _⟩)
 rw[if_neg h1]at hz;have h1':¬(64:Int)<ls.length:=by omega
 have HZ:=hid hz;clear hz;go_enter Tryz.func75,Tryz.ntmps75;go_wp2_with fail
 go_loopw [3] (fun i wr=>∃k:Nat,k≤ls.length∧i= .int .i64 k∧Hid (fstE (fun k=>obsErr (ls[k]?.getD [])) k (ls.length-k)=z)∧Hid (Below w.heap.size w wr))
  (fun i _=>ls.length-(intOf i).toNat)
 case atStart=>exact⟨0,Nat.zero_le _,rfl,HZ,Below.refl _ _⟩
 case round=>
  obtain⟨m,hm,rfl,HZ,HB⟩:=hrel;obtain⟨wo,rfl⟩:∃wo:World,wo=wr:=⟨_,rfl⟩;have wm:IntKind.i64.wrap ((m:Int)+1)=(m:Int)+1:=IntWalk.i64_in _ (by omega);have hm0:(0:Int)≤(m:Int):=by omega
  by_cases hml:m<ls.length
  ·have hml':(m:Int)<(ls.length:Int):=by omega
   have hst:fstE (fun k=>obsErr (ls[k]?.getD [])) m (ls.length-m)=if obsErr (ls[m]?.getD [])≠0 then obsErr (ls[m]?.getD [])else fstE (fun k=>obsErr (ls[k]?.getD [])) (m+1) (ls.length-(m+1)):=fstE_step hml;have hsm:=hid (HSL.out m hml);obtain⟨b,off,xa,xc,rfl,hb,c0,hx⟩:=HL.out.atB HB.out m hml;have HX:=hid hx;have HST:=hid hst;clear hx hst;generalize ls[m]?.getD []=x at*
   by_cases hoz:obsErr x=0
   case neg=>
    have hob:(obsErr x !=0)=true:=by simpa using hoz
    go_wp2_with (go_at_call 74;refine(q_objs x _ _ (HX.out.below HB.out) hsm.out).mono ?_;rintro e w2 ⟨rfl,hB2⟩);go_ret;exact⟨ret_int (by rw[← HZ.out,HST.out,if_pos hoz]),up HB.out hB2⟩
   case pos=>
    have hob:(obsErr x !=0)=false:=by simpa using hoz
    go_wp2_with (go_at_call 74;refine(q_objs x _ _ (HX.out.below HB.out) hsm.out).mono ?_;rintro e w2 ⟨rfl,hB2⟩);go_roundw;case rel=>exact⟨m+1,by omega,by go_num,hid (by have:=HZ.out;rw[HST.out,if_neg (by simpa using hoz)]at this;exact this),up HB.out hB2⟩
    case measure=>simp[intOf];omega
  ·have hml':¬(m:Int)<(ls.length:Int):=by omega
   go_wp2_with fail;go_ret;exact⟨ret_int (by have:=HZ.out;rw[show ls.length-m=0 by omega]at this;exact this),HB.out⟩
theorem q_Check (s:Ses)(v:Value)(w:World)(hs:SesR w v s)(hm:SmSes s):
 Calls Tryz.prog 28 #[v] w fun e w'=>e= .returned (.int .i64 (sesErr s))∧Below w.heap.size w w':=by
 obtain⟨ov,pv,fv,rfl,ho,hp,hf⟩:=hs;obtain⟨oa,oc,rfl,_⟩:=ho.form;obtain⟨pa,pc,rfl,_⟩:=hp.form;obtain⟨fa,fc,rfl,_⟩:=hf.form;have HO:Hid (∀ W,Below w.heap.size w W→Calls Tryz.prog 74 #[.slice oa s.obs.length oc] W fun e w'=>e= .returned (.int .i64 (obsErr s.obs))∧Below W.heap.size W w'):=fun W h=>q_objs s.obs _ W (ho.below h) hm.1;have HP:Hid (∀ W,Below w.heap.size w W→Calls Tryz.prog 75 #[.slice pa s.past.length pc] W fun e w'=>e= .returned (.int .i64 (lsErr s.past))∧Below W.heap.size W w'):=fun W h=>q_lists s.past _ W (hp.below h) hm.2.1;have HF:Hid (∀ W,Below w.heap.size w W→Calls Tryz.prog 75 #[.slice fa s.fut.length fc] W fun e w'=>e= .returned (.int .i64 (lsErr s.fut))∧Below W.heap.size W w'):=fun W h=>q_lists s.fut _ W (hf.below h) hm.2.2
 generalize hz:sesErr s=z;unfold sesErr at hz;clear ho hp hf hm;generalize obsErr s.obs=eo at*
 generalize lsErr s.past=ep at*
 generalize lsErr s.fut=ef at*
 by_cases h0:eo=0
 case neg=>
  have hb:(eo !=0)=true:=by simpa using h0
  rw[if_pos h0]at hz;have HZ:=hid hz;clear hz h0;go_enter Tryz.func28,Tryz.ntmps28;go_wp2_with (go_at_call 74;refine(HO.out _ ?hb).mono ?_;(case hb=>go_grown);rintro e w1 ⟨rfl,hB1⟩;have HW1:Hid (Below w.heap.size w w1):=(show Below w.heap.size w w1 from up (by go_grown) hB1);obtain⟨r1,r2⟩:=bcell hB1);go_ret;exact⟨ret_int HZ.out,HW1.out⟩
 have hb:(eo !=0)=false:=by simpa using h0
 rw[if_neg (by simpa using h0)]at hz;clear h0;by_cases h1:ep=0
 case neg=>
  have hb1:(ep !=0)=true:=by simpa using h1
  rw[if_pos h1]at hz;have HZ:=hid hz;clear hz h1;go_enter Tryz.func28,Tryz.ntmps28;go_upto_region 4 with (go_at_call 74;refine(HO.out _ ?hb).mono ?_;(case hb=>go_grown);rintro e w1 ⟨rfl,hB1⟩;have HW1:Hid (Below w.heap.size w w1):=(show Below w.heap.size w w1 from up (by go_grown) hB1);obtain⟨r1,r2⟩:=bcell hB1;have hs1:=hB1.size;(simp at hs1);have u1:w.heap.size<w1.heap.size:=(by omega));go_wp2_with (go_at_call 75;refine(HP.out _ ?hb).mono ?_;(case hb=>exact HW1.out);rintro e w2 ⟨rfl,hB2⟩;have HW2:Hid (Below w.heap.size w w2):=(show Below w.heap.size w w2 from up HW1.out hB2);obtain⟨r3,r4⟩:=bcell hB2)
  go_ret;exact⟨ret_int HZ.out,HW2.out⟩
 have hb1:(ep !=0)=false:=by simpa using h1
 rw[if_neg (by simpa using h1)]at hz;have HZ:=hid hz;clear hz h1;go_enter Tryz.func28,Tryz.ntmps28;go_upto_region 4 with (go_at_call 74;refine(HO.out _ ?hb).mono ?_;(case hb=>go_grown);rintro e w1 ⟨rfl,hB1⟩;have HW1:Hid (Below w.heap.size w w1):=(show Below w.heap.size w w1 from up (by go_grown) hB1);obtain⟨r1,r2⟩:=bcell hB1;have hs1:=hB1.size;(simp at hs1);have u1:w.heap.size<w1.heap.size:=(by omega));go_upto_region 7 with (go_at_call 75;refine(HP.out _ ?hb).mono ?_;(case hb=>exact HW1.out);rintro e w2 ⟨rfl,hB2⟩;have HW2:Hid (Below w.heap.size w w2):=(show Below w.heap.size w w2 from up HW1.out hB2);obtain⟨r3,r4⟩:=bcell hB2;have hs2:=hB2.size;have u2:w.heap.size<w2.heap.size:=(by omega))
 go_wp2_with (go_at_call 75;refine(HF.out _ ?hb).mono ?_;(case hb=>exact HW2.out);rintro e w3 ⟨rfl,hB3⟩);go_ret;exact⟨ret_int HZ.out,up HW2.out hB3⟩
theorem load_objR {w:World}{b:Nat}{v0 v1 v2 v3 v4:Value}(h:Blk w b #[v0,v1,v2,v3,v4] 72):(loadVar 72 ⟨b,0,none⟩).run Tryz.prog w= .ok (.agg #[v0,v1,v2,v3,v4]) w:=by
 have hlt:=h.lt;have c0:=h.cell 0;have c1:=h.cell 1;have c2:=h.cell 2;have c3:=h.cell 3;have c4:=h.cell 4;simp only[xG,xH,xI]at c0 c1 c2 c3 c4;go_simp
def findErr (s:Ses)(n:List UInt8):Int:=if sesErr s≠0 then sesErr s else if plN s.obs n<s.obs.length then 0 else 6
def findB (s:Ses)(n:List UInt8):Ob:=if findErr s n=0 then obOf s.obs n else ob0
def RetFind (s:Ses)(n:List UInt8)(w:World)(e:Ending)(w':World):Prop:=∃v,e= .returned (.tuple #[v,.int .i64 (findErr s n)])∧ObR w' v (findB s n)∧Below w.heap.size w w'
theorem q_Find (s:Ses)(v:Value)(n:List UInt8)(w:World)(hs:SesR w v s)(hm:SmSes s):
 Calls Tryz.prog 33 #[v,.string (str n)] w (RetFind s n w):=by
 have hCk:∀W,Below w.heap.size w W→Calls Tryz.prog 28 #[v] W fun e w'=>e= .returned (.int .i64 (sesErr s))∧Below W.heap.size W w':=fun W h=>q_Check s v W (hs.below h) hm;have HCk:=hid hCk;obtain⟨ov,pv,fv,rfl,ho,hp,hf⟩:=hs;obtain⟨oa,oc,rfl,hcap,hcm,hlen⟩:=ho.form;obtain⟨pa,pc,rfl,_⟩:=hp.form;obtain⟨fa,fc,rfl,_⟩:=hf.form;have HL:=hid ho;have hB:Below w.heap.size w ((w.alloc (.cells #[.slice oa s.obs.length oc,.slice pa s.past.length pc,.slice fa s.fut.length fc] 36)).alloc (.cells #[.string ⟨#[]⟩,.string ⟨#[]⟩,.int .i64 0,.slice none 0 0,.slice none 0 0] 72)):=by go_grown
 have hX:=hid ((Blk.new w #[.slice oa s.obs.length oc,.slice pa s.past.length pc,.slice fa s.fut.length fc] 36).alloc (.cells #[.string ⟨#[]⟩,.string ⟨#[]⟩,.int .i64 0,.slice none 0 0,.slice none 0 0] 72));have hY:=hid (Blk.new (w.alloc (.cells #[.slice oa s.obs.length oc,.slice pa s.past.length pc,.slice fa s.fut.length fc] 36)) #[.string ⟨#[]⟩,.string ⟨#[]⟩,.int .i64 0,.slice none 0 0,.slice none 0 0] 72);simp only[World.size_alloc]at hY;have HB:=hid hB;clear ho hp hf hm hCk hB;go_enter Tryz.func33,Tryz.ntmps33;go_upto_region 1 with fail;generalize hW:((w.alloc (.cells #[.slice oa s.obs.length oc,.slice pa s.past.length pc,.slice fa s.fut.length fc] 36)).alloc (.cells #[.string ⟨#[]⟩,.string ⟨#[]⟩,.int .i64 0,.slice none 0 0,.slice none 0 0] 72))=W0 at*
 clear hW;have lx:=hX.out.lt;have x0:=hX.out.cell 0;have x1:=hX.out.cell 1;have x2:=hX.out.cell 2;simp only[xG,xH,xI]at x0 x1 x2;go_upto_region 2 with (go_at_call 28;refine(HCk.out _ ?hb).mono ?_;(case hb=>exact HB.out);rintro e w1 ⟨rfl,hB1⟩);have HB1:Hid (Below w.heap.size w w1):=(show Below w.heap.size w w1 from up HB.out hB1);have hX1:=hid (hX.out.below hB1);have hY1:=hid (hY.out.below hB1);clear x0 x1 x2 lx hX hY HB hB1 HCk;have lx:=hX1.out.lt;have x0:=hX1.out.cell 0;have x1:=hX1.out.cell 1;have x2:=hX1.out.cell 2;have ly:=hY1.out.lt;have y0:=hY1.out.cell 0;have y1:=hY1.out.cell 1;have y2:=hY1.out.cell 2
 have y3:=hY1.out.cell 3;have y4:=hY1.out.cell 4;have g0:=hY1.out.frozen 0;have g1:=hY1.out.frozen 1;have g2:=hY1.out.frozen 2;have g3:=hY1.out.frozen 3;have g4:=hY1.out.frozen 4;simp only[xG,xH,xI]at x0 x1 x2 y0 y1 y2 y3 y4;have HFE:Hid (findErr s n=if sesErr s≠0 then sesErr s else if plN s.obs n<s.obs.length then 0 else 6):=rfl;have HFB:Hid (findB s n=if findErr s n=0 then obOf s.obs n else ob0):=rfl;generalize sesErr s=z at*
 by_cases h0:z=0
 case neg=>
  have hb:(z !=0)=true:=by simpa using h0
  have hf:Hid (findErr s n=z):=by show _=_;rw[HFE.out,if_pos h0]
  have hf2:Hid (findB s n=ob0):=by show _=_;rw[HFB.out,hf.out,if_neg h0]
  clear h0 HFE HFB;go_wp2_with fail;refine bodyPost_ret (results_cellB rfl rfl (load_objR (blk5 hY1.out _ _ _ _ _))) rfl ⟨.agg #[.string (str []),.string (str []),.int .i64 0,.slice none 0 0,.slice none 0 0],?_,?_,below5 HB1.out (Nat.le_succ _) _ _ _ _ _⟩
  ·rw[hf.out];rfl
  ·rw[hf2.out];exact⟨_,_,rfl,EdgesR.nil _,IntsR.nil _⟩
 have hb:(z !=0)=false:=by simpa using h0
 rw[if_neg (by simpa using h0)]at HFE;clear h0;have hpc:=hid (q_Place s.obs _ n w1 (HL.out.below HB1.out));by_cases hp:plN s.obs n<s.obs.length
 ·rw[plI_lt hp]at hpc
  obtain⟨b,off,ea,ec,da,dc,rfl,hb2,c0,c1,c2,c3,c4,he,hd⟩:=HL.out.atB HB1.out _ hp;have hf:Hid (findErr s n=0):=by show _=_;rw[HFE.out,if_pos hp]
  have hf2:Hid (findB s n=s.obs[plN s.obs n]?.getD default):=by show _=_;rw[HFB.out,hf.out,if_pos rfl];rfl
  have hk1:((plN s.obs n:Nat):Int)<(s.obs.length:Int):=by omega
  have hk0:(0:Int)≤((plN s.obs n:Nat):Int):=by omega
  have hkn:¬((plN s.obs n:Nat):Int)<0:=by omega
  have HE:=hid he;have HD:=hid hd;clear he hd hp HFE HFB;generalize s.obs[plN s.obs n]?.getD default=x at*
  generalize plN s.obs n=k at*
  go_wp2_with (go_at_call 48;refine hpc.out.mono ?_;rintro e w2 ⟨rfl,rfl⟩);refine bodyPost_ret (results_cellB rfl rfl (load_objR (blk5 hY1.out _ _ _ _ _))) rfl ⟨.agg #[.string (str x.name),.string (str x.on),.int .i64 x.g.n,.slice ea x.g.es.length ec,.slice da x.d.length dc],?_,?_,below5 HB1.out (Nat.le_succ _) _ _ _ _ _⟩
  ·rw[hf.out];rfl
  ·rw[hf2.out];exact⟨_,_,rfl,HE.out.below (below5 HB1.out (Nat.le_succ _) _ _ _ _ _),HD.out.below (below5 HB1.out (Nat.le_succ _) _ _ _ _ _)⟩
 ·rw[plI_no hp]at hpc
  have hf:Hid (findErr s n=6):=by show _=_;rw[HFE.out,if_neg hp]
  have hf2:Hid (findB s n=ob0):=by show _=_;rw[HFB.out,hf.out,if_neg (by decide)]
  clear hp HFE HFB;go_wp2_with (go_at_call 48;refine hpc.out.mono ?_;rintro e w2 ⟨rfl,rfl⟩);refine bodyPost_ret (results_cellB rfl rfl (load_objR (blk5 hY1.out _ _ _ _ _))) rfl ⟨.agg #[.string (str []),.string (str []),.int .i64 0,.slice none 0 0,.slice none 0 0],?_,?_,below5 HB1.out (Nat.le_succ _) _ _ _ _ _⟩
  ·rw[hf.out];rfl
  ·rw[hf2.out];exact⟨_,_,rfl,EdgesR.nil _,IntsR.nil _⟩
def RetZ (p:Prop)(w:World)(e:Ending)(w':World):Prop:=∃z:Int,e= .returned (.int .i64 z)∧(z=0↔p)∧Below w.heap.size w w'
theorem list_ext {xs ys:List Int}(hl:xs.length=ys.length)(h:∀j,j<xs.length→xs[j]?.getD default=ys[j]?.getD default):xs=ys:=by
 apply List.ext_getElem hl;intro j h1 h2;have:=h j h1;simpa[h1,h2]using this
theorem q_Order (xs ys:List Int)(av bv:Value)(w:World)(ha:IntsR w av xs)(hb:IntsR w bv ys)(hl:xs.length=ys.length):
 Calls Tryz.prog 122 #[av,bv] w (RetZ (xs=ys) w):=by
 obtain⟨a,cap,rfl,h1,h2,h3,hc⟩:=ha;obtain⟨a',cap',rfl,h1',h2',h3',hd⟩:=hb;have HC:=hid hc;have HD:=hid hd;have HLN:=hid hl;clear hc hd h3';go_enter Tryz.func122,Tryz.ntmps122;go_wp2_with fail;go_loopw [5] (fun i wr=>∃k:Nat,k≤xs.length∧i= .int .i64 k∧Hid (∀ j,j<k→xs[j]?.getD default=ys[j]?.getD default)∧Hid (Below w.heap.size w wr)) (fun i _=>xs.length-(intOf i).toNat);case atStart=>exact⟨0,Nat.zero_le _,rfl,fun j hj=>by omega,Below.refl _ _⟩
 case round=>
  obtain⟨k,hk,rfl,HP,HB⟩:=hrel;obtain⟨wo,rfl⟩:∃wo:World,wo=wr:=⟨_,rfl⟩;have hk0:(0:Int)≤(k:Int):=by omega
  have wk:IntKind.i64.wrap ((k:Int)+1)=(k:Int)+1:=IntWalk.i64_in _ (by omega);by_cases hlt:k<xs.length
  ·have hlt':(k:Int)<(xs.length:Int):=by omega
   have hlt2:(k:Int)<(ys.length:Int):=by omega
   obtain⟨b,off,rfl,hb,hcs⟩:=(HC.out.below HB.out).int (by omega);obtain⟨b',off',rfl,hb',hds⟩:=(HD.out.below HB.out).int (by omega);have c0:=hcs k hlt;have d0:=hds k (by omega);have HNE:Hid (xs[k]?.getD default≠ys[k]?.getD default→xs≠ys):=fun h e=>h (by rw[e]);have HEQ:Hid (xs[k]?.getD default=ys[k]?.getD default→∀j,j<k+1→xs[j]?.getD default=ys[j]?.getD default):=fun h j hj=>by
    by_cases e:j=k
    ·subst e;exact h
    ·exact HP.out j (by omega)
   have hx:xs[k]?.getD default=xs[k]?.getD 0:=rfl;have hy:ys[k]?.getD default=ys[k]?.getD 0:=rfl;rw[hx,hy]at HNE HEQ;clear hcs hds hx hy;generalize xs[k]?.getD 0=x at*
   generalize ys[k]?.getD 0=y at*
   by_cases hxy:x<y
   case pos=>
    have hd1:decide (x<y)=true:=by simpa using hxy
    go_upto_region 4 with fail;go_quiet (fail);go_wp2_with fail;go_ret;exact⟨-1,rfl,⟨fun h=>by omega,fun h=>absurd h (HNE.out (by omega))⟩,below_dN HB.out _⟩
   case neg=>
    have hd1:decide (x<y)=false:=by simpa using hxy
    by_cases hyx:y<x
    case pos=>
     have hd2:decide (y<x)=true:=by simpa using hyx
     go_upto_region 4 with fail;go_quiet (fail);go_upto_region 6 with fail;go_quiet (fail);go_wp2_with fail;go_ret;exact⟨1,rfl,⟨fun h=>by omega,fun h=>absurd h (HNE.out (by omega))⟩,below_dN HB.out _⟩
    case neg=>
     have hd2:decide (y<x)=false:=by simpa using hyx
     go_upto_region 4 with fail;go_quiet (fail);go_upto_region 6 with fail;go_quiet (fail);go_wp2_with fail;exact⟨⟨k+1,by omega,by go_num,hid (HEQ.out (by omega)),below_dN HB.out _⟩,by simp[intOf];omega⟩
  ·have hlt':¬(k:Int)<(xs.length:Int):=by omega
   go_wp2_with fail;go_ret;exact⟨0,rfl,⟨fun _=>list_ext HLN.out fun j hj=>HP.out j (by omega),fun _=>rfl⟩,HB.out⟩
def RetB (p:Prop)(w:World)(e:Ending)(w':World):Prop:=∃b:Bool,e= .returned (.bool b)∧(b=true↔p)∧Below w.heap.size w w'
theorem q_SameD (xs ys:List Int)(av bv:Value)(w:World)(ha:IntsR w av xs)(hb:IntsR w bv ys):
 Calls Tryz.prog 76 #[av,bv] w (RetB (xs=ys) w):=by
 have HO:Hid (xs.length=ys.length→Calls Tryz.prog 122 #[av,bv] w (RetZ (xs=ys) w)):=q_Order xs ys av bv w ha hb;obtain⟨a,cap,rfl,_⟩:=ha;obtain⟨a',cap',rfl,_⟩:=hb;by_cases hl:xs.length=ys.length
 case neg=>
  have hne:((xs.length:Int)!=(ys.length:Int))=true:=by simp;omega
  have HNE:Hid (xs≠ys):=fun e=>hl (by rw[e]);clear hl;go_enter Tryz.func76,Tryz.ntmps76;go_wp2_with fail;go_ret;exact⟨false,rfl,⟨fun h=>(by cases h),fun h=>absurd h HNE.out⟩,Below.refl _ _⟩
 case pos=>
  have hne:((xs.length:Int)!=(ys.length:Int))=false:=by simp;omega
  have hc:=hid (HO.out hl);clear hl;go_enter Tryz.func76,Tryz.ntmps76;go_wp2_with fail;refine hc.out.mono ?_;rintro e w1 ⟨z,rfl,hz,hB1⟩;have HZ:=hid hz;clear hz;dsimp only;cases hzb:(z==0)with
  |true=>
   go_wp2_with fail
   go_ret
   exact⟨true,rfl,⟨fun _=>HZ.out.1 (by simpa using hzb),fun _=>rfl⟩,hB1⟩
  |false=>
   go_wp2_with fail
   go_ret
   exact⟨false,rfl,⟨fun h=>(by cases h),fun h=>absurd (HZ.out.2 h) (by simpa using hzb)⟩,hB1⟩
theorem q_SameG (g h:G)(av bv:Value)(w:World)(ha:GrR w av g)(hb:GrR w bv h):
 Calls Tryz.prog 72 #[av,bv] w (RetB (g=h) w):=by
 obtain⟨ev,rfl,hE⟩:=ha;obtain⟨ev',rfl,hE'⟩:=hb;have HE:=hid hE;have HE':=hid hE';obtain⟨a,cap,rfl,_⟩:=hE;obtain⟨a',cap',rfl,_⟩:=hE';have hA:=hid ((Blk.new w #[.int .i64 g.n,.slice a g.es.length cap] 28).alloc (.cells #[.int .i64 h.n,.slice a' h.es.length cap'] 28));have hBb:=Blk.new (w.alloc (.cells #[.int .i64 g.n,.slice a g.es.length cap] 28)) #[.int .i64 h.n,.slice a' h.es.length cap'] 28;rw[World.size_alloc]at hBb;have hB:=hid hBb;have HB0:=hid (((Below.refl w.heap.size w).alloc (Nat.le_refl _) (.cells #[.int .i64 g.n,.slice a g.es.length cap] 28)).alloc (by simp) (.cells #[.int .i64 h.n,.slice a' h.es.length cap'] 28))
 clear hBb;have HEX:Hid (g.n=h.n→g.es.length=h.es.length→(∀ j,j<g.es.length→g.es[j]?.getD default=h.es[j]?.getD default)→g=h):=by
  intro e1 e2 e3;obtain⟨gn,ges⟩:=g;obtain⟨hn,hes⟩:=h;dsimp only at e1 e2 e3;subst e1;have:ges=hes:=by
   apply List.ext_getElem e2;intro j h1 h2;have:=e3 j h1;simpa[h1,h2]using this
  rw[this]
 by_cases h1:g.n=h.n
 case neg=>
  have q1:(g.n !=h.n)=true:=by simpa using h1
  have HN:Hid (g≠h):=fun e=>h1 (by rw[e]);clear h1;go_enter Tryz.func72,Tryz.ntmps72;go_wp2_with fail;all_goals(go_ret;exact⟨false,rfl,⟨fun h=>(by cases h),fun h=>absurd h HN.out⟩,HB0.out⟩)
 have q1:(g.n !=h.n)=false:=by simpa using h1
 by_cases h2:g.es.length=h.es.length
 case neg=>
  have q2:((g.es.length:Int)!=(h.es.length:Int))=true:=by simp;omega
  have HN:Hid (g≠h):=fun e=>h2 (by rw[e]);clear h1 h2;go_enter Tryz.func72,Tryz.ntmps72;go_wp2_with fail;all_goals(go_ret;exact⟨false,rfl,⟨fun h=>(by cases h),fun h=>absurd h HN.out⟩,HB0.out⟩)
 have q2:((g.es.length:Int)!=(h.es.length:Int))=false:=by simp;omega
 have HX:=hid (HEX.out h1 h2);have HLN:=hid h2;clear HEX h1 h2;go_enter Tryz.func72,Tryz.ntmps72;go_upto_region 1 with fail;generalize (w.alloc (.cells #[.int .i64 g.n,.slice a g.es.length cap] 28)).alloc (.cells #[.int .i64 h.n,.slice a' h.es.length cap'] 28)=W0 at*
 have a0:W0.cell? ⟨w.heap.size,0,none⟩=some (.int .i64 g.n):=(hA.out.cell 0).trans rfl;have a1:W0.cell? ⟨w.heap.size,1,none⟩=some (.slice a g.es.length cap):=(hA.out.cell 1).trans rfl;have b0:W0.cell? ⟨w.heap.size+1,0,none⟩=some (.int .i64 h.n):=(hB.out.cell 0).trans rfl;have b1:W0.cell? ⟨w.heap.size+1,1,none⟩=some (.slice a' h.es.length cap'):=(hB.out.cell 1).trans rfl;have al:=hA.out.lt;have bl:=hB.out.lt;have HE0:=hid (HE.out.below HB0.out);have HE0':=hid (HE'.out.below HB0.out);go_wp2_with fail;go_loopw [5] (fun i wr=>∃k:Nat,k≤g.es.length∧i= .int .i64 k∧Hid (∀ j,j<k→g.es[j]?.getD default=h.es[j]?.getD default)∧Hid (Below W0.heap.size W0 wr)) (fun i _=>g.es.length-(intOf i).toNat)
 case atStart=>exact⟨0,Nat.zero_le _,rfl,fun j hj=>by omega,Below.refl _ _⟩
 case round=>
  obtain⟨k,hkn,rfl,HP,HBr⟩:=hrel;obtain⟨wo,rfl⟩:∃wo:World,wo=wr:=⟨_,rfl⟩;have a1:wo.cell? ⟨w.heap.size,1,none⟩=some (.slice a g.es.length cap):=((hA.out.below HBr.out).cell 1).trans rfl;have b1:wo.cell? ⟨w.heap.size+1,1,none⟩=some (.slice a' h.es.length cap'):=((hB.out.below HBr.out).cell 1).trans rfl;have al:=(hA.out.below HBr.out).lt;have bl:=(hB.out.below HBr.out).lt;have HBW:Hid (Below w.heap.size w wo):=HB0.out.trans (HBr.out.mono HB0.out.size);by_cases hlt:k<g.es.length
  ·have hlt':(k:Int)<(g.es.length:Int):=by omega
   have hlt2:(k:Int)<(h.es.length:Int):=by have:=HLN.out;omega
   have hk2:k<h.es.length:=by omega
   have hk0:(0:Int)≤(k:Int):=by omega
   have wk:IntKind.i64.wrap ((k:Int)+1)=(k:Int)+1:=IntWalk.i64_in _ (by have:=HE.out;obtain⟨_,_,e,_,_,h3,_⟩:=this;omega);obtain⟨x1,x2,ea,_,_,_,hc⟩:=HE0.out.below HBr.out;injection ea with ea1 _ ea3
   subst ea1 ea3;obtain⟨b,off,rfl,hb,hc⟩:=hc.edge (by omega);obtain⟨c0,c1,c2⟩:=hc k hlt;obtain⟨y1,y2,eb,_,_,_,hd⟩:=HE0'.out.below HBr.out;injection eb with eb1 _ eb3
   subst eb1 eb3;obtain⟨b',off',rfl,hb',hd⟩:=hd.edge (by omega);obtain⟨d0,d1,d2⟩:=hd k hk2;clear hc hd hk2;have HNE:Hid (g.es[k]?.getD default≠h.es[k]?.getD default→g≠h):=fun n e=>n (by rw[e]);have HEQ:Hid (g.es[k]?.getD default=h.es[k]?.getD default→∀j,j<k+1→g.es[j]?.getD default=h.es[j]?.getD default):=fun h j hj=>by
    by_cases e:j=k
    ·subst e;exact h
    ·exact HP.out j (by omega)
   generalize g.es[k]?.getD default=x at*
   generalize h.es[k]?.getD default=y at*
   obtain⟨xa,xb,xm⟩:=x;obtain⟨ya,yb,ym⟩:=y;dsimp only at c0 c1 c2 d0 d1 d2;cases p1:(xa==ya)<;>cases p2:(xb==yb)<;>cases p3:(xm==ym)
   all_goals
    go_wp2_with fail
    go_quiet (fail)
    go_wp2_with fail
    first
     |(go_ret;exact⟨false,rfl,⟨fun h=>(by cases h),fun h=>absurd h (HNE.out (by intro e;injection e with e1 e2 e3;subst e1 e2 e3;simp at p1 p2 p3))⟩,below_dN HBW.out _⟩)
     |exact⟨⟨k+1,by omega,by go_num,hid (HEQ.out (by rw[eq_of_beq p1,eq_of_beq p2,eq_of_beq p3])),below_dN HBr.out _⟩,by simp[intOf];omega⟩
  ·obtain rfl:k=g.es.length:=by omega
   have hlt':¬(g.es.length:Int)<(g.es.length:Int):=by omega
   go_wp2_with fail;go_ret;exact⟨true,rfl,⟨fun _=>HX.out fun j hj=>HP.out j hj,fun _=>rfl⟩,HBW.out⟩
theorem five_in {w w':World}{b i:Nat}{v0 v1 v2 v3 v4:Option Value}(h:Below w.heap.size w w')(hb:b<w.heap.size)(c0:w.cell? ⟨b,i,none⟩=v0)(c1:w.cell? ⟨b,i+1,none⟩=v1)(c2:w.cell? ⟨b,i+2,none⟩=v2)(c3:w.cell? ⟨b,i+3,none⟩=v3)(c4:w.cell? ⟨b,i+4,none⟩=v4):
 w'.cell? ⟨b,i,none⟩=v0∧w'.cell? ⟨b,i+1,none⟩=v1∧w'.cell? ⟨b,i+2,none⟩=v2∧w'.cell? ⟨b,i+3,none⟩=v3∧w'.cell? ⟨b,i+4,none⟩=v4:=
 ⟨(h.cell (p:=⟨b,_,none⟩) hb).trans c0,(h.cell (p:=⟨b,_,none⟩) hb).trans c1,(h.cell (p:=⟨b,_,none⟩) hb).trans c2,(h.cell (p:=⟨b,_,none⟩) hb).trans c3,(h.cell (p:=⟨b,_,none⟩) hb).trans c4⟩
theorem q_SameObs (l m:List Ob)(av bv:Value)(w:World)(ha:ObsR w av l)(hb:ObsR w bv m):
 Calls Tryz.prog 29 #[av,bv] w (RetB (l=m) w):=by
 obtain⟨a,cap,rfl,hcap,hcm,hlen⟩:=ha.form;obtain⟨a',cap',rfl,hcap',hcm',hlen'⟩:=hb.form;have HA:=hid ha;have HBB:=hid hb;clear ha hb;by_cases hl:l.length=m.length
 case neg=>
  have hne:((l.length:Int)!=(m.length:Int))=true:=by simp;omega
  have HNE:Hid (l≠m):=fun e=>hl (by rw[e]);clear hl;go_enter Tryz.func29,Tryz.ntmps29;go_wp2_with fail;go_ret;exact⟨false,rfl,⟨fun h=>(by cases h),fun h=>absurd h HNE.out⟩,Below.refl _ _⟩
 have hne:((l.length:Int)!=(m.length:Int))=false:=by simp;omega
 have HLN:=hid hl;clear hl;go_enter Tryz.func29,Tryz.ntmps29;go_wp2_with fail;go_loopw [5] (fun i wr=>∃k:Nat,k≤l.length∧i= .int .i64 k∧Hid (∀ j,j<k→l[j]?.getD default=m[j]?.getD default)∧Hid (Below w.heap.size w wr)) (fun i _=>l.length-(intOf i).toNat);case atStart=>exact⟨0,Nat.zero_le _,rfl,fun j hj=>by omega,Below.refl _ _⟩
 case round=>
  obtain⟨k,hk,rfl,HP,HB⟩:=hrel;obtain⟨wo,rfl⟩:∃wo:World,wo=wr:=⟨_,rfl⟩;have hk0:(0:Int)≤(k:Int):=by omega
  have wk:IntKind.i64.wrap ((k:Int)+1)=(k:Int)+1:=IntWalk.i64_in _ (by omega);by_cases hlt:k<l.length
  ·have hlt':(k:Int)<(l.length:Int):=by omega
   have hlt2:(k:Int)<(m.length:Int):=by have:=HLN.out;omega
   obtain⟨b,off,ea,ec,da,dc,rfl,hb,c0,c1,c2,c3,c4,he,hd⟩:=HA.out.atB HB.out k hlt;obtain⟨b',off',ea',ec',da',dc',rfl,hb',d0,d1,d2,d3,d4,he',hd'⟩:=HBB.out.atB HB.out k (by omega);have HNE:Hid (l[k]?.getD default≠m[k]?.getD default→l≠m):=fun n e=>n (by rw[e]);have HEQ:Hid (l[k]?.getD default=m[k]?.getD default→∀j,j<k+1→l[j]?.getD default=m[j]?.getD default):=fun h j hj=>by
    by_cases e:j=k
    ·subst e;exact h
    ·exact HP.out j (by omega)
   have HG:Hid (∀ W,Below w.heap.size w W→Calls Tryz.prog 72 #[.agg #[.int .i64 (l[k]?.getD default).g.n,.slice ea (l[k]?.getD default).g.es.length ec],.agg #[.int .i64 (m[k]?.getD default).g.n,.slice ea' (m[k]?.getD default).g.es.length ec']] W (RetB ((l[k]?.getD default).g=(m[k]?.getD default).g) W)):=fun W hW=>q_SameG _ _ _ _ W ⟨_,rfl,he.below hW⟩ ⟨_,rfl,he'.below hW⟩;have HD:Hid (∀ W,Below w.heap.size w W→Calls Tryz.prog 76 #[.slice da (l[k]?.getD default).d.length dc,.slice da' (m[k]?.getD default).d.length dc'] W (RetB ((l[k]?.getD default).d=(m[k]?.getD default).d) W)):=fun W hW=>q_SameD _ _ _ _ W (hd.below hW) (hd'.below hW)
   clear he hd he' hd';generalize l[k]?.getD default=x at*
   generalize m[k]?.getD default=y at*
   have s1:=str_eqb x.name y.name;have s2:=str_eqb x.on y.on;cases n1:(x.name==y.name)with
   |false=>
    rw[n1]at s1
    go_upto_region 6 with fail
    let S:World→Prop:=fun w'=>Below wo.heap.size wo w'
    (refine wp_region_text 51 [0,1,2,3,4,5,6,7,8,9,10,11,12,13,14,15,16,17,18,19,20,21,22,23,24,25,26,27,28,29,30,31,32,33,34,35,36,37,38,39,40,41,42,43,44,45,46,47,48,49,50] S (by kernel_rfl) (by kernel_rfl) (by intro _ _ d _ _ h;cases d<;>exact h) ?hS ?_;rotate_left;simp only[xA,xB,xC,xD,xE,xF])
    case hS=>exact Below.drew (Below.refl _ _)
    (repeat ((refine' wpSeq_take rfl _ (by rfl) ?_ ?_;rotate_left;focus(intro w' hS;(try dsimp only at hS);obtain⟨t0,t1,t2,t3,t4⟩:=five_in hS hb c0 c1 c2 c3 c4;obtain⟨u0,u1,u2,u3,u4⟩:=five_in hS hb' d0 d1 d2 d3 d4;go_simp;(first|done|with_reducible rfl));(try go_frame));(try go_frame)))
    (repeat (refine wpSeq_skip (by rfl) ?_;(try go_frame)))
    (repeat ((refine' wpSeq_take rfl _ (by rfl) ?_ ?_;rotate_left;focus(intro w' hS;(try dsimp only at hS);obtain⟨t0,t1,t2,t3,t4⟩:=five_in hS hb c0 c1 c2 c3 c4;obtain⟨u0,u1,u2,u3,u4⟩:=five_in hS hb' d0 d1 d2 d3 d4;go_simp;(first|done|with_reducible rfl));(try go_frame));(try go_frame)))
    (repeat (refine wpSeq_skip (by rfl) ?_;(try go_frame)))
    (repeat ((refine' wpSeq_take rfl _ (by rfl) ?_ ?_;rotate_left;focus(intro w' hS;(try dsimp only at hS);obtain⟨t0,t1,t2,t3,t4⟩:=five_in hS hb c0 c1 c2 c3 c4;obtain⟨u0,u1,u2,u3,u4⟩:=five_in hS hb' d0 d1 d2 d3 d4;go_simp;(first|done|with_reducible rfl));(try go_frame));(try go_frame)))
    (repeat (refine wpSeq_skip (by rfl) ?_;(try go_frame)))
    (repeat ((refine' wpSeq_take rfl _ (by rfl) ?_ ?_;rotate_left;focus(intro w' hS;(try dsimp only at hS);obtain⟨t0,t1,t2,t3,t4⟩:=five_in hS hb c0 c1 c2 c3 c4;obtain⟨u0,u1,u2,u3,u4⟩:=five_in hS hb' d0 d1 d2 d3 d4;go_simp;(first|done|with_reducible rfl));(try go_frame));(try go_frame)))
    refine wpSeq_nil ?_
    clear S
    go_wp2_with fail
    go_ret
    exact⟨false,rfl,⟨fun h=>(by cases h),fun h=>absurd h (HNE.out (fun e=>(by rw[e]at n1;simp at n1)))⟩,up HB.out (Below.drew (Below.refl _ _))⟩
   |true=>
    have hw1:=n1
    rw[n1]at s1
    cases n2:(x.on==y.on)with
    |false=>
     rw[n2]at s2
     go_upto_region 6 with fail
     let S:World→Prop:=fun w'=>Below wo.heap.size wo w'
     (refine wp_region_text 51 [0,1,2,3,4,5,6,7,8,9,10,11,12,13,14,15,16,17,18,19,20,21,22,23,24,25,26,27,28,29,30,31,32,33,34,35,36,37,38,39,40,41,42,43,44,45,46,47,48,49,50] S (by kernel_rfl) (by kernel_rfl) (by intro _ _ d _ _ h;cases d<;>exact h) ?hS ?_;rotate_left;simp only[xA,xB,xC,xD,xE,xF])
     case hS=>exact Below.drew (Below.refl _ _)
     (repeat ((refine' wpSeq_take rfl _ (by rfl) ?_ ?_;rotate_left;focus(intro w' hS;(try dsimp only at hS);obtain⟨t0,t1,t2,t3,t4⟩:=five_in hS hb c0 c1 c2 c3 c4;obtain⟨u0,u1,u2,u3,u4⟩:=five_in hS hb' d0 d1 d2 d3 d4;go_simp;(first|done|with_reducible rfl));(try go_frame));(try go_frame)))
     (repeat (refine wpSeq_skip (by rfl) ?_;(try go_frame)))
     (repeat ((refine' wpSeq_take rfl _ (by rfl) ?_ ?_;rotate_left;focus(intro w' hS;(try dsimp only at hS);obtain⟨t0,t1,t2,t3,t4⟩:=five_in hS hb c0 c1 c2 c3 c4;obtain⟨u0,u1,u2,u3,u4⟩:=five_in hS hb' d0 d1 d2 d3 d4;go_simp;(first|done|with_reducible rfl));(try go_frame));(try go_frame)))
     (repeat (refine wpSeq_skip (by rfl) ?_;(try go_frame)))
     (repeat ((refine' wpSeq_take rfl _ (by rfl) ?_ ?_;rotate_left;focus(intro w' hS;(try dsimp only at hS);obtain⟨t0,t1,t2,t3,t4⟩:=five_in hS hb c0 c1 c2 c3 c4;obtain⟨u0,u1,u2,u3,u4⟩:=five_in hS hb' d0 d1 d2 d3 d4;go_simp;(first|done|with_reducible rfl));(try go_frame));(try go_frame)))
     (repeat (refine wpSeq_skip (by rfl) ?_;(try go_frame)))
     (repeat ((refine' wpSeq_take rfl _ (by rfl) ?_ ?_;rotate_left;focus(intro w' hS;(try dsimp only at hS);obtain⟨t0,t1,t2,t3,t4⟩:=five_in hS hb c0 c1 c2 c3 c4;obtain⟨u0,u1,u2,u3,u4⟩:=five_in hS hb' d0 d1 d2 d3 d4;go_simp;(first|done|with_reducible rfl));(try go_frame));(try go_frame)))
     refine wpSeq_nil ?_
     clear S
     go_wp2_with fail
     go_ret
     exact⟨false,rfl,⟨fun h=>(by cases h),fun h=>absurd h (HNE.out (fun e=>(by rw[e]at n2;simp at n2)))⟩,up HB.out (Below.drew (Below.refl _ _))⟩
    |true=>
     rw[n2]at s2
     go_upto_region 6 with fail
     let S:World→Prop:=fun w'=>Below wo.heap.size wo w'
     (refine wp_region_text 51 [0,1,2,3,4,5,6,7,8,9,10,11,12,13,14,15,16,17,18,19,20,21,22,23,24,25,26,27,28,29,30,31,32,33,34,35,36,37,38,39,40,41,42,43,44,45,46,47,48,49,50] S (by kernel_rfl) (by kernel_rfl) (by intro _ _ d _ _ h;cases d<;>exact h) ?hS ?_;rotate_left;simp only[xA,xB,xC,xD,xE,xF])
     case hS=>exact Below.drew (Below.refl _ _)
     (repeat ((refine' wpSeq_take rfl _ (by rfl) ?_ ?_;rotate_left;focus(intro w' hS;(try dsimp only at hS);obtain⟨t0,t1,t2,t3,t4⟩:=five_in hS hb c0 c1 c2 c3 c4;obtain⟨u0,u1,u2,u3,u4⟩:=five_in hS hb' d0 d1 d2 d3 d4;go_simp;(first|done|with_reducible rfl));(try go_frame));(try go_frame)))
     (refine wpSeq_call rfl (by rfl) (fun K hK=> ?_);go_simp;refine(HG.out _ (up HB.out (Below.drew (Below.refl _ _)))).mono ?_;rintro e w1 ⟨b1,rfl,hb1,hB1⟩;refine hK _ _ (up (Below.drew (Below.refl _ _)) hB1) ?_;clear hK K;(try go_frame))
     cases b1 with
     |false=>
      (repeat ((refine' wpSeq_take rfl _ (by rfl) ?_ ?_;rotate_left;focus(intro w' hS;(try dsimp only at hS);obtain⟨t0,t1,t2,t3,t4⟩:=five_in hS hb c0 c1 c2 c3 c4;obtain⟨u0,u1,u2,u3,u4⟩:=five_in hS hb' d0 d1 d2 d3 d4;go_simp;(first|done|with_reducible rfl));(try go_frame));(try go_frame)))
      (repeat (refine wpSeq_skip (by rfl) ?_;(try go_frame)))
      (repeat ((refine' wpSeq_take rfl _ (by rfl) ?_ ?_;rotate_left;focus(intro w' hS;(try dsimp only at hS);obtain⟨t0,t1,t2,t3,t4⟩:=five_in hS hb c0 c1 c2 c3 c4;obtain⟨u0,u1,u2,u3,u4⟩:=five_in hS hb' d0 d1 d2 d3 d4;go_simp;(first|done|with_reducible rfl));(try go_frame));(try go_frame)))
      (repeat (refine wpSeq_skip (by rfl) ?_;(try go_frame)))
      (repeat ((refine' wpSeq_take rfl _ (by rfl) ?_ ?_;rotate_left;focus(intro w' hS;(try dsimp only at hS);obtain⟨t0,t1,t2,t3,t4⟩:=five_in hS hb c0 c1 c2 c3 c4;obtain⟨u0,u1,u2,u3,u4⟩:=five_in hS hb' d0 d1 d2 d3 d4;go_simp;(first|done|with_reducible rfl));(try go_frame));(try go_frame)))
      refine wpSeq_nil ?_
      clear S
      go_wp2_with fail
      go_ret
      exact⟨false,rfl,⟨fun h=>(by cases h),fun h=>absurd h (HNE.out (fun e=>(by have:=hb1.2 (by rw[e]);cases this)))⟩,up HB.out (up (Below.drew (Below.refl _ _)) hB1)⟩
     |true=>
      (repeat ((refine' wpSeq_take rfl _ (by rfl) ?_ ?_;rotate_left;focus(intro w' hS;(try dsimp only at hS);obtain⟨t0,t1,t2,t3,t4⟩:=five_in hS hb c0 c1 c2 c3 c4;obtain⟨u0,u1,u2,u3,u4⟩:=five_in hS hb' d0 d1 d2 d3 d4;go_simp;(first|done|with_reducible rfl));(try go_frame));(try go_frame)))
      (refine wpSeq_call rfl (by rfl) (fun K hK=> ?_);go_simp;refine(HD.out _ (up HB.out (up (Below.drew (Below.refl _ _)) hB1))).mono ?_;rintro e w2 ⟨b2,rfl,hb2,hB2⟩;refine hK _ _ (up (up (Below.drew (Below.refl _ _)) hB1) hB2) ?_;clear hK K;(try go_frame))
      cases b2 with
      |false=>
       (repeat ((refine' wpSeq_take rfl _ (by rfl) ?_ ?_;rotate_left;focus(intro w' hS;(try dsimp only at hS);obtain⟨t0,t1,t2,t3,t4⟩:=five_in hS hb c0 c1 c2 c3 c4;obtain⟨u0,u1,u2,u3,u4⟩:=five_in hS hb' d0 d1 d2 d3 d4;go_simp;(first|done|with_reducible rfl));(try go_frame));(try go_frame)))
       refine wpSeq_nil ?_
       clear S
       go_wp2_with fail
       go_ret
       exact⟨false,rfl,⟨fun h=>(by cases h),fun h=>absurd h (HNE.out (fun e=>(by have:=hb2.2 (by rw[e]);cases this)))⟩,up HB.out (up (up (Below.drew (Below.refl _ _)) hB1) hB2)⟩
      |true=>
       (repeat ((refine' wpSeq_take rfl _ (by rfl) ?_ ?_;rotate_left;focus(intro w' hS;(try dsimp only at hS);obtain⟨t0,t1,t2,t3,t4⟩:=five_in hS hb c0 c1 c2 c3 c4;obtain⟨u0,u1,u2,u3,u4⟩:=five_in hS hb' d0 d1 d2 d3 d4;go_simp;(first|done|with_reducible rfl));(try go_frame));(try go_frame)))
       refine wpSeq_nil ?_
       clear S
       have HXY:Hid (x=y):=(by obtain⟨x1,x2,x3,x4⟩:=x;obtain⟨y1,y2,y3,y4⟩:=y;have e1:=eq_of_beq n1;have e2:=eq_of_beq n2;have e3:=hb1.1 rfl;have e4:=hb2.1 rfl;dsimp only at e1 e2 e3 e4;show _=_;rw[e1,e2,e3,e4])
       clear hb1 hb2
       go_wp2_with fail
       go_roundw
       case rel=>exact⟨k+1,by omega,by go_num,hid (HEQ.out HXY.out),up HB.out (up (up (Below.drew (Below.refl _ _)) hB1) hB2)⟩
       case measure=>simp[intOf];omega
  ·have hlt':¬(k:Int)<(l.length:Int):=by omega
   go_wp2_with fail;go_ret;exact⟨true,rfl,⟨fun _=>(by
    apply List.ext_getElem HLN.out;intro j h1 h2;have:=HP.out j (by omega);simpa[h1,h2]using this),fun _=>rfl⟩,HB.out⟩
theorem q_sameLists (l m:List (List Ob))(av bv:Value)(w:World)(ha:LsoR w av l)(hb:LsoR w bv m):
 Calls Tryz.prog 67 #[av,bv] w (RetB (l=m) w):=by
 obtain⟨a,cap,rfl,hcap,hcm,hlen⟩:=ha.form;obtain⟨a',cap',rfl,hcap',hcm',hlen'⟩:=hb.form;have HA:=hid ha;have HBB:=hid hb;clear ha hb;by_cases hl:l.length=m.length
 case neg=>
  have hne:((l.length:Int)!=(m.length:Int))=true:=by simp;omega
  have HNE:Hid (l≠m):=fun e=>hl (by rw[e]);clear hl;go_enter Tryz.func67,Tryz.ntmps67;go_wp2_with fail;go_ret;exact⟨false,rfl,⟨fun h=>(by cases h),fun h=>absurd h HNE.out⟩,Below.refl _ _⟩
 have hne:((l.length:Int)!=(m.length:Int))=false:=by simp;omega
 have HLN:=hid hl;clear hl;go_enter Tryz.func67,Tryz.ntmps67;go_wp2_with fail;go_loopw [5] (fun i wr=>∃k:Nat,k≤l.length∧i= .int .i64 k∧Hid (∀ j,j<k→l[j]?.getD []=m[j]?.getD [])∧Hid (Below w.heap.size w wr)) (fun i _=>l.length-(intOf i).toNat);case atStart=>exact⟨0,Nat.zero_le _,rfl,fun j hj=>by omega,Below.refl _ _⟩
 case round=>
  obtain⟨k,hk,rfl,HP,HB⟩:=hrel;obtain⟨wo,rfl⟩:∃wo:World,wo=wr:=⟨_,rfl⟩;have hk0:(0:Int)≤(k:Int):=by omega
  have wk:IntKind.i64.wrap ((k:Int)+1)=(k:Int)+1:=IntWalk.i64_in _ (by omega);by_cases hlt:k<l.length
  ·have hlt':(k:Int)<(l.length:Int):=by omega
   have hlt2:(k:Int)<(m.length:Int):=by have:=HLN.out;omega
   obtain⟨b,off,xa,xc,rfl,hb,c0,hx⟩:=HA.out.atB HB.out k hlt;obtain⟨b',off',ya,yc,rfl,hb',d0,hy⟩:=HBB.out.atB HB.out k (by omega);have HNE:Hid (l[k]?.getD []≠m[k]?.getD []→l≠m):=fun n e=>n (by rw[e]);have HEQ:Hid (l[k]?.getD []=m[k]?.getD []→∀j,j<k+1→l[j]?.getD []=m[j]?.getD []):=fun h j hj=>by
    by_cases e:j=k
    ·subst e;exact h
    ·exact HP.out j (by omega)
   have HC:Hid (∀ W,Below w.heap.size w W→Calls Tryz.prog 29 #[.slice xa (l[k]?.getD []).length xc,.slice ya (m[k]?.getD []).length yc] W (RetB (l[k]?.getD []=m[k]?.getD []) W)):=fun W hW=>q_SameObs _ _ _ _ W (hx.below hW) (hy.below hW);clear hx hy;generalize l[k]?.getD []=x at*
   generalize m[k]?.getD []=y at*
   go_upto_region 6 with fail;let S:World→Prop:=fun w'=>Below wo.heap.size wo w'
   (refine wp_region_text 9 [0,1,2,3,4,5,6,7,8] S (by kernel_rfl) (by kernel_rfl) (by intro _ _ d _ _ h;cases d<;>exact h) ?hS ?_;rotate_left;simp only[xA,xB,xC,xD,xE,xF]);case hS=>exact Below.drew (Below.refl _ _)
   (repeat ((refine' wpSeq_take rfl _ (by rfl) ?_ ?_;rotate_left;focus(intro w' hS;(try dsimp only at hS);have t0:w'.cell? ⟨b,off+k,none⟩=some (.slice xa x.length xc):=(Below.cell hS (p:=⟨b,off+k,none⟩) hb).trans c0;have u0:w'.cell? ⟨b',off'+k,none⟩=some (.slice ya y.length yc):=(Below.cell hS (p:=⟨b',off'+k,none⟩) hb').trans d0;go_simp;(first|done|with_reducible rfl));(try go_frame));(try go_frame)));(refine wpSeq_call rfl (by rfl) (fun K hK=> ?_);go_simp;refine(HC.out _ (up HB.out (Below.drew (Below.refl _ _)))).mono ?_;rintro e w1 ⟨b1,rfl,hb1,hB1⟩;refine hK _ _ (up (Below.drew (Below.refl _ _)) hB1) ?_;clear hK K;(try go_frame))
   refine wpSeq_nil ?_;clear S;have HB1:=hid hb1;clear hb1;cases b1 with
   |false=>
    go_wp2_with fail
    go_ret
    exact⟨false,rfl,⟨fun h=>(by cases h),fun h=>absurd h (HNE.out (fun e=>(by have:=HB1.out.2 e;cases this)))⟩,up HB.out (up (Below.drew (Below.refl _ _)) hB1)⟩
   |true=>
    go_wp2_with fail
    go_roundw
    case rel=>exact⟨k+1,by omega,by go_num,hid (HEQ.out (HB1.out.1 rfl)),up HB.out (up (Below.drew (Below.refl _ _)) hB1)⟩
    case measure=>simp[intOf];omega
  ·have hlt':¬(k:Int)<(l.length:Int):=by omega
   go_wp2_with fail;go_ret;exact⟨true,rfl,⟨fun _=>(by
    apply List.ext_getElem HLN.out;intro j h1 h2;have:=HP.out j (by omega);simpa[h1,h2]using this),fun _=>rfl⟩,HB.out⟩
theorem RetB.dec {p:Prop}[Decidable p]{w:World}{e:Ending}{w':World}(h:RetB p w e w'):e= .returned (.bool (decide p))∧Below w.heap.size w w':=by
 obtain⟨b,rfl,hb,hB⟩:=h;refine⟨?_,hB⟩;have:b=decide p:=by rw[Bool.eq_iff_iff,hb,decide_eq_true_iff]
 rw[this]
theorem q_SameS (s t:Ses)(av bv:Value)(w:World)(ha:SesR w av s)(hb:SesR w bv t):
 Calls Tryz.prog 20 #[av,bv] w fun e w'=>e= .returned (.bool (decide (s=t)))∧Below w.heap.size w w':=by
 obtain⟨ov,pv,fv,rfl,ho,hp,hf⟩:=ha;obtain⟨oa,oc,rfl,_⟩:=ho.form;obtain⟨pa,pc,rfl,_⟩:=hp.form;obtain⟨fa,fc,rfl,_⟩:=hf.form;obtain⟨ov',pv',fv',rfl,ho',hp',hf'⟩:=hb;obtain⟨oa',oc',rfl,_⟩:=ho'.form;obtain⟨pa',pc',rfl,_⟩:=hp'.form;obtain⟨fa',fc',rfl,_⟩:=hf'.form;have HO:=hid (fun (W:World) (h:Below w.heap.size w W)=>(q_SameObs s.obs t.obs _ _ W (ho.below h) (ho'.below h)).mono fun _ _ h=>h.dec);have HP:=hid (fun (W:World) (h:Below w.heap.size w W)=>(q_sameLists s.past t.past _ _ W (hp.below h) (hp'.below h)).mono fun _ _ h=>h.dec);have HF:=hid (fun (W:World) (h:Below w.heap.size w W)=>(q_sameLists s.fut t.fut _ _ W (hf.below h) (hf'.below h)).mono fun _ _ h=>h.dec)
 have HZ:Hid (decide (s=t)=(decide (s.obs=t.obs)&&decide (s.past=t.past)&&decide (s.fut=t.fut))):=by
  show _=_;obtain⟨s1,s2,s3⟩:=s;obtain⟨t1,t2,t3⟩:=t;rw[Bool.eq_iff_iff];simp[and_assoc]
 clear ho hp hf ho' hp' hf';generalize decide (s=t)=z at*
 generalize decide (s.obs=t.obs)=z1 at*
 generalize decide (s.past=t.past)=z2 at*
 generalize decide (s.fut=t.fut)=z3 at*
 have hB:Below w.heap.size w ((w.alloc (.cells #[.slice oa s.obs.length oc,.slice pa s.past.length pc,.slice fa s.fut.length fc] 36)).alloc (.cells #[.slice oa' t.obs.length oc',.slice pa' t.past.length pc',.slice fa' t.fut.length fc'] 36)):=by go_grown
 have hX:=hid ((Blk.new w #[.slice oa s.obs.length oc,.slice pa s.past.length pc,.slice fa s.fut.length fc] 36).alloc (.cells #[.slice oa' t.obs.length oc',.slice pa' t.past.length pc',.slice fa' t.fut.length fc'] 36));have hY:=Blk.new (w.alloc (.cells #[.slice oa s.obs.length oc,.slice pa s.past.length pc,.slice fa s.fut.length fc] 36)) #[.slice oa' t.obs.length oc',.slice pa' t.past.length pc',.slice fa' t.fut.length fc'] 36;rw[World.size_alloc]at hY;have HY:=hid hY;have HB:=hid hB;clear hB hY;go_enter Tryz.func20,Tryz.ntmps20;go_upto_region 1 with fail;generalize ((w.alloc (.cells #[.slice oa s.obs.length oc,.slice pa s.past.length pc,.slice fa s.fut.length fc] 36)).alloc (.cells #[.slice oa' t.obs.length oc',.slice pa' t.past.length pc',.slice fa' t.fut.length fc'] 36))=W0 at*
 have lx:=hX.out.lt;have ly:=HY.out.lt;have x0:W0.cell? ⟨w.heap.size,0,none⟩=some (.slice oa s.obs.length oc):=(hX.out.cell 0).trans rfl;have y0:W0.cell? ⟨w.heap.size+1,0,none⟩=some (.slice oa' t.obs.length oc'):=(HY.out.cell 0).trans rfl;cases z1 with
 |false=>
  go_wp2_with fail
  refine(HO.out W0 HB.out).mono ?_
  rintro e w1 ⟨rfl,hB1⟩
  dsimp only
  go_wp2_with fail
  go_ret
  exact⟨by rw[HZ.out];rfl,up HB.out hB1⟩
 |true=>
 go_wp2_with fail;refine(HO.out W0 HB.out).mono ?_;rintro e w1 ⟨rfl,hB1⟩;have HB1:=hid (up HB.out hB1);have hX1:=hid (hX.out.below hB1);have hY1:=hid (HY.out.below hB1);clear x0 y0 lx ly hB1 HO;have lx:=hX1.out.lt;have ly:=hY1.out.lt;have x1:w1.cell? ⟨w.heap.size,1,none⟩=some (.slice pa s.past.length pc):=(hX1.out.cell 1).trans rfl;have y1:w1.cell? ⟨w.heap.size+1,1,none⟩=some (.slice pa' t.past.length pc'):=(hY1.out.cell 1).trans rfl;dsimp only;cases z2 with
 |false=>
  go_wp2_with fail
  refine(HP.out w1 HB1.out).mono ?_
  rintro e w2 ⟨rfl,hB2⟩
  dsimp only
  go_wp2_with fail
  go_ret
  exact⟨by rw[HZ.out];rfl,up HB1.out hB2⟩
 |true=>
 go_wp2_with fail;refine(HP.out w1 HB1.out).mono ?_;rintro e w2 ⟨rfl,hB2⟩;have HB2:=hid (up HB1.out hB2);have hX2:=hid (hX1.out.below hB2);have hY2:=hid (hY1.out.below hB2);clear x1 y1 lx ly hB2 HP;have lx:=hX2.out.lt;have ly:=hY2.out.lt;have x2:w2.cell? ⟨w.heap.size,2,none⟩=some (.slice fa s.fut.length fc):=(hX2.out.cell 2).trans rfl;have y2:w2.cell? ⟨w.heap.size+1,2,none⟩=some (.slice fa' t.fut.length fc'):=(hY2.out.cell 2).trans rfl;dsimp only;go_wp2_with fail;refine(HF.out w2 HB2.out).mono ?_;rintro e w3 ⟨rfl,hB3⟩;dsimp only;go_wp2_with fail;go_ret;exact⟨by rw[HZ.out];rfl,up HB2.out hB3⟩
end Go.Proofs.YtclgllmipcbagaaGreatDoor
