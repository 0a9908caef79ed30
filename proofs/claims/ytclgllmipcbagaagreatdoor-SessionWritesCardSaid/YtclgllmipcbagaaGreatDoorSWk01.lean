/-
  Parts of the proof: XSp XR08 XR19 XS5 XY6
-/
import Derived.Test.YtclgllmipcbagaaGreatDoorBk17
import Derived.Test.YtclgllmipcbagaaGreatDoorSWk00
import Derived.Test.YtclgllmipcbagaaGreatDoorBk02
import Derived.Test.YtclgllmipcbagaaGreatDoorProg
import Derived.Test.YtclgllmipcbagaaGreatDoorBk00
import Derived.Test.YtclgllmipcbagaaGreatDoorBk14
import Derived.Laws.BytesArg
import Derived.Test.YtclgllmipcbagaaGreatDoorBk24
namespace Go.Proofs.YtclgllmipcbagaaGreatDoor
open Go.RowKit
set_option linter.unusedVariables false
set_option linter.unusedSimpArgs false
set_option maxRecDepth 100000
set_option maxHeartbeats 16000000
theorem ndig_le:∀(k n:Nat),n<10^k→1≤k→Lib.nDigits n≤k
 |0,n,_,h=>by omega
 |1,n,h,_=>by rw[Lib.nDigits_small (by simpa using h)];exact Nat.le_refl _
 |k+2,n,h,_=>by
  by_cases h10:n<10
  ·rw[Lib.nDigits_small h10];omega
  ·rw[Lib.nDigits_big h10]
   have:=ndig_le (k+1) (n/10) (by rw[Nat.pow_succ]at h;omega) (by omega);omega
def natQ (l:List UInt8):Int:=if l.all isDig=true∧l.length≤9 then(numOf l:Int)else 0
def intQ (l:List UInt8):Int:=if l.head? =some 45 then -(natQ l.tail)else natQ l
theorem natQ_dec {u:Nat}(h:u≤1048576):natQ (Lib.decDigits u)=u:=by
 obtain⟨d1,d2,d3,_⟩:=dec_num u;unfold natQ;have:=ndig_le 7 u (by omega) (by decide);rw[if_pos ⟨d2,by rw[Lib.decDigits_length];omega⟩,d1]
theorem intQ_itoa {n:Int}(h0: -1048576≤n)(h1:n≤1048576):intQ (Lib.itoa n)=n:=by
 by_cases h:n<0
 ·rw[itoa_neg h,itoa_nat (by omega)]
  unfold intQ;rw[if_pos (show (45::Lib.decDigits (-n).toNat).head? =some 45 from rfl),List.tail_cons,natQ_dec (by omega)];omega
 ·rw[itoa_nat (by omega)]
  obtain⟨d1,d2,d3,_⟩:=dec_num n.toNat;have hne:(Lib.decDigits n.toNat).head? ≠some 45:=by
   intro e;cases hd:Lib.decDigits n.toNat with
   |nil=>exact d3 hd
   |cons c r=>
    rw[hd]at e d2
    injection e with e
    subst e
    simp only[List.all_cons,Bool.and_eq_true]at d2
    exact absurd d2.1 (by decide)
  unfold intQ;rw[if_neg hne,natQ_dec (by omega)];omega
theorem valsQ_back {l:List Int}(h:∀x∈l,-1048576≤x∧x≤1048576):(l.map Lib.itoa).map intQ=l:=by
 rw[List.map_map];conv=>rhs;rw[← List.map_id l]
 apply List.map_congr_left;intro x hx;exact intQ_itoa (h x hx).1 (h x hx).2
def guessQ (t:List UInt8):Cmd:=
 let l:=parts32 t
 let k:=kIx (l[0]?.getD [])
 if 6<k∨l.length<2 then{cmd0 with kind:=k}else
 let c:Cmd:={cmd0 with kind:=k,name:=l[1]?.getD []}
 if k=0 then(if 5+c.name.length<t.length then{c with g:=grOf (t.drop (5+c.name.length))}else c)
 else if k=1 then(if 3<l.length then{c with on:=l[3]?.getD [],vals:=(l.drop 4).map intQ}else c)
 else if k=2 then{c with vals:=(l.drop 2).map intQ}
 else if k=3∨k=4 then{c with q:=intQ (l[l.length-1]?.getD [])}
 else if k=5 then(if 3<l.length then{c with on:=l[2]?.getD [],other:=l[3]?.getD []}else c)
 else c
theorem guessQ_of {t:List UInt8}{w n:List UInt8}{r:List (List UInt8)}(h:parts32 t=w::n::r)(hk:kIx w≤6):guessQ t=
 (let c:Cmd:={cmd0 with kind:=kIx w,name:=n}
  if kIx w=0 then(if 5+n.length<t.length then{c with g:=grOf (t.drop (5+n.length))}else c)
  else if kIx w=1 then(if 1<r.length then{c with on:=r[1]?.getD [],vals:=(r.drop 2).map intQ}else c)
  else if kIx w=2 then{c with vals:=r.map intQ}
  else if kIx w=3∨kIx w=4 then{c with q:=intQ ((w::n::r)[r.length+1]?.getD [])}
  else if kIx w=5 then(if 1<r.length then{c with on:=r[0]?.getD [],other:=r[1]?.getD []}else c)
  else c):=by
 unfold guessQ;rw[h];dsimp only;have e0:(w::n::r)[0]?.getD []=w:=rfl;have e1:(w::n::r)[1]?.getD []=n:=rfl;have e2:(w::n::r)[2]?.getD []=r[0]?.getD []:=rfl;have e3:(w::n::r)[3]?.getD []=r[1]?.getD []:=rfl;have ed2:(w::n::r).drop 2=r:=rfl;have ed4:(w::n::r).drop 4=r.drop 2:=rfl;have el:(w::n::r).length=r.length+2:=rfl;rw[e0,e1,e2,e3,ed2,ed4,el,if_neg (by omega),show r.length+2-1=r.length+1 from rfl];have e3':(3<r.length+2)=(1<r.length):=by rw[eq_iff_iff];omega
 simp only[e3']
theorem guessQ_text {c:Cmd}(h:rightErr c=0):guessQ (textOf c)=c:=by
 obtain⟨t0,t1,t2,t3,t4,t5,t6,t7,t8⟩:=text_parts h;obtain⟨k0,k8,hw,hn,hs⟩:=right_ok h;obtain⟨s1,s2,s3,s4,s5,s6⟩:=cspare_ok hs;obtain⟨n1,n2,n3⟩:=cnums_ok hn;have hk:c.kind=0∨c.kind=1∨c.kind=2∨c.kind=3∨c.kind=4∨c.kind=5∨c.kind=6∨c.kind=7∨c.kind=8:=by omega
 rcases hk with k|k|k|k|k|k|k|k|k
 ·rw[guessQ_of (t0 k) (by decide)]
  dsimp only;obtain⟨hg,_⟩:=graphR_ok (n2 k);have hgt:=(graph_text hg).2.1;have e:textOf c=(wLet++32::(c.name++[32]))++(graphR c.g).2:=by unfold textOf;rw[if_pos k];simp
  have hl:(wLet++32::(c.name++[32])).length=5+c.name.length:=by simp[wLet];omega
  have hpos:0<(graphR c.g).2.length:=by rw[hgt];simp[wGraph]
  have hd:(textOf c).drop (5+c.name.length)=(graphR c.g).2:=by rw[e,←hl,List.drop_left]
  rw[if_pos (show kIx wLet=0 by decide),if_pos (by rw[e,List.length_append,hl];omega),hd,grOf_text (n2 k) hg];exact cmd_ext k.symm rfl (s2 (by simp[kOn,k])).symm (s3 (by simp[kOther,k])).symm (s4 (by simp[kAt,k])).symm rfl (s5 (by simp[kVals,k])).symm
 ·rw[guessQ_of (t1 k) (by decide)]
  dsimp only;rw[if_neg (show ¬kIx wPut=0 by decide),if_pos (show kIx wPut=1 by decide),if_pos (by simp)];exact cmd_ext k.symm rfl rfl (s3 (by simp[kOther,k])).symm (s4 (by simp[kAt,k])).symm (s6 (by omega)).symm (valsQ_back (chips_in (n3 (by simp[kVals,k])).2.2))
 ·rw[guessQ_of (t2 k) (by decide)]
  dsimp only;rw[if_neg (show ¬kIx wFire=0 by decide),if_neg (show ¬kIx wFire=1 by decide),if_pos (show kIx wFire=2 by decide)];exact cmd_ext k.symm rfl (s2 (by simp[kOn,k])).symm (s3 (by simp[kOther,k])).symm (s4 (by simp[kAt,k])).symm (s6 (by omega)).symm (valsQ_back (chips_in (n3 (by simp[kVals,k])).2.2))
 ·rw[guessQ_of (t3 k) (by decide)]
  dsimp only;rw[if_neg (show ¬kIx wStab=0 by decide),if_neg (show ¬kIx wStab=1 by decide),if_neg (show ¬kIx wStab=2 by decide),if_pos (show kIx wStab=3∨kIx wStab=4 by decide)];have:=n1 (by simp[kAt,k]);exact cmd_ext k.symm rfl (s2 (by simp[kOn,k])).symm (s3 (by simp[kOther,k])).symm (intQ_itoa (by omega) (by omega)) (s6 (by omega)).symm (s5 (by simp[kVals,k])).symm
 ·rw[guessQ_of (t4 k) (by decide)]
  dsimp only;rw[if_neg (show ¬kIx wRed=0 by decide),if_neg (show ¬kIx wRed=1 by decide),if_neg (show ¬kIx wRed=2 by decide),if_pos (show kIx wRed=3∨kIx wRed=4 by decide)];have:=n1 (by simp[kAt,k]);exact cmd_ext k.symm rfl (s2 (by simp[kOn,k])).symm (s3 (by simp[kOther,k])).symm (intQ_itoa (by omega) (by omega)) (s6 (by omega)).symm (s5 (by simp[kVals,k])).symm
 ·rw[guessQ_of (t5 k) (by decide)]
  dsimp only;rw[if_neg (show ¬kIx wAdd=0 by decide),if_neg (show ¬kIx wAdd=1 by decide),if_neg (show ¬kIx wAdd=2 by decide),if_neg (show ¬(kIx wAdd=3∨kIx wAdd=4) by decide),if_pos (show kIx wAdd=5 by decide),if_pos (by simp)];exact cmd_ext k.symm rfl rfl rfl (s4 (by simp[kAt,k])).symm (s6 (by omega)).symm (s5 (by simp[kVals,k])).symm
 ·rw[guessQ_of (t6 k) (by decide)]
  dsimp only;rw[if_neg (show ¬kIx wDrop=0 by decide),if_neg (show ¬kIx wDrop=1 by decide),if_neg (show ¬kIx wDrop=2 by decide),if_neg (show ¬(kIx wDrop=3∨kIx wDrop=4) by decide),if_neg (show ¬kIx wDrop=5 by decide)];exact cmd_ext k.symm rfl (s2 (by simp[kOn,k])).symm (s3 (by simp[kOther,k])).symm (s4 (by simp[kAt,k])).symm (s6 (by omega)).symm (s5 (by simp[kVals,k])).symm
 ·unfold guessQ
  rw[t7 k];dsimp only;rw[if_pos (by simp)];exact cmd_ext k.symm (s1 (by simp[kName,k])).symm (s2 (by simp[kOn,k])).symm (s3 (by simp[kOther,k])).symm (s4 (by simp[kAt,k])).symm (s6 (by omega)).symm (s5 (by simp[kVals,k])).symm
 ·unfold guessQ
  rw[t8 k];dsimp only;rw[if_pos (by simp)];exact cmd_ext k.symm (s1 (by simp[kName,k])).symm (s2 (by simp[kOn,k])).symm (s3 (by simp[kOther,k])).symm (s4 (by simp[kAt,k])).symm (s6 (by omega)).symm (s5 (by simp[kVals,k])).symm
theorem readQ_eq (t:List UInt8):readP t=if 4096<t.length then(19,cmd0)else if (textR (guessQ t)).1≠0∨(textR (guessQ t)).2≠t then(4,cmd0)else(0,guessQ t):=readP_any (fun c h=>guessQ_text h) t
theorem r08_Vertex (n v:Int)(ev:Value)(w:World):
 Calls Tryz.prog 166 #[.agg #[.int .i64 n,ev],.int .i64 v] w fun e w'=>e= .returned (.bool (vtx n v))∧w.alloc (.cells #[.int .i64 n,ev] 28)=w':=by
 go_enter Tryz.func166,Tryz.ntmps166;go_wp2
 ·go_ret
  have h:0≤v:=by assumption
  exact⟨by simp[vtx,h],rfl⟩
 ·go_ret
  have h:v<0:=by assumption
  exact⟨by simp[vtx];omega,rfl⟩
theorem r08_edge (g:G)(gv:Value)(i:Int)(w:World)(hg:GrR w gv g)(h0:0≤i)(hi:i<g.es.length):
 Calls Tryz.prog 106 #[gv,.int .i64 i] w fun e w'=>e= .returned (.int .i64 (edgeErr g i.toNat))∧Below w.heap.size w w':=by
 obtain⟨ev,rfl,a,cap,rfl,hcap,hcm,hlen,hc⟩:=hg;obtain⟨b,off,rfl,hb,hc⟩:=hc.edge (by omega);obtain⟨k,rfl⟩:=Int.eq_ofNat_of_zero_le h0;obtain⟨c1,c2,c3⟩:=hc k (by omega);have d:=hc (k-1) (by omega);obtain⟨d1,d2,d3⟩:=d;rw[Int.toNat_natCast];generalize hz:edgeErr g k=z;unfold edgeErr at hz;generalize hx:g.es[k]?.getD default=x at*
 generalize hy:g.es[k-1]?.getD default=y at*
 have HZ:=hid hz;clear hx hy hc hz;have hb':∀k,b<w.heap.size+k:=fun k=>by omega
 go_enter Tryz.func106,Tryz.ntmps106;go_wp2_with (go_at_call 166;refine(r08_Vertex _ _ _ _).mono ?_;rintro e w' ⟨rfl,rfl⟩);all_goals(go_ret;refine⟨ret_int ?_,by go_grown⟩;have hz:=HZ.out;clear HZ;first|grind|skip)
theorem r08_Check (g:G)(gv:Value)(w:World)(hg:GrR w gv g):
 Calls Tryz.prog 61 #[gv] w fun e w'=>e= .returned (.int .i64 (checkErr g))∧Below w.heap.size w w':=by
 have hg':=hg;obtain⟨ev,rfl,a,cap,rfl,hcap,hcm,hlen,hc⟩:=hg';generalize hz:checkErr g=z;unfold checkErr at hz;by_cases hn:g.n<1∨12<g.n
 ·rw[if_pos hn]at hz
  subst hz;rcases hn with hn|hn
  all_goals
   go_enter Tryz.func61,Tryz.ntmps61
   go_wp2
   all_goals(go_ret;exact⟨rfl,by go_grown⟩)
 rw[if_neg hn]at hz;have h1:1≤g.n:=by omega
 have h2:g.n≤12:=by omega
 have HZ:=hid hz;clear hz hn;go_enter Tryz.func61,Tryz.ntmps61;go_wp2
 go_loopw [3] (fun i wr=>∃k:Nat,k≤g.es.length∧i= .int .i64 k∧Hid (firstNZ (edgeErr g) k (g.es.length-k)=z)∧
  Below (w.alloc (.cells #[.int .i64 g.n,.slice a g.es.length cap] 28)).heap.size (w.alloc (.cells #[.int .i64 g.n,.slice a g.es.length cap] 28)) wr)
  (fun i _=>g.es.length-(intOf i).toNat)
 case atStart=>exact⟨0,Nat.zero_le _,rfl,HZ,Below.refl _ _⟩
 case round=>
  obtain⟨k,hk,rfl,HZ,hB⟩:=hrel;obtain⟨r1,r2⟩:=bcell hB;have hBw:Below w.heap.size w wr:=up (by go_grown) hB;have hgr:=hid (hg.below hBw);by_cases hlt:k<g.es.length
  ·have HS:=hid (firstNZ_step (edgeErr g) k g.es.length hlt)
   by_cases h0:edgeErr g k=0
   ·go_wp2_with (go_at_call 106;refine(r08_edge g _ _ _ hgr.out (by omega) (by omega)).mono ?_;rintro e w' ⟨rfl,hB'⟩)
    go_roundw;case rel=>exact⟨k+1,by omega,by go_num,hid (by rw[← HZ.out,HS.out,if_neg (by simpa using h0)]),up hB hB'⟩
    case measure=>simp[intOf];omega
   ·go_wp2_with (go_at_call 106;refine(r08_edge g _ _ _ hgr.out (by omega) (by omega)).mono ?_;rintro e w' ⟨rfl,hB'⟩)
    go_ret;refine⟨ret_int ?_,up hBw hB'⟩;rw[← HZ.out,HS.out,if_pos (by simpa using h0)]
  ·go_wp2
   go_ret;refine⟨ret_int ?_,hBw⟩;rw[← HZ.out,firstNZ_end _ _ _ (by omega)]
theorem Tryz.underEnds:Tryz.prog.underlying 251=some (.slice 291):=by kernel_rfl
theorem Tryz.infoPair:(Tryz.prog.info? 291).map (fun i=>(i.zero,i.size,i.bytes))=some (some (.agg #[.int .i64 0,.int .i64 0]),2,16):=by kernel_rfl
theorem r08_Ends (g:G)(gv:Value)(w:World)(hg:GrR w gv g)(hk:Gok g):
 Calls Tryz.prog 187 #[gv] w fun e w'=>∃v,e= .returned v∧w'.ownsRow w.heap.size 291 2 v (endsOf g.es).length (pairCells (endsOf g.es))∧Below w.heap.size w w':=by
 have hg':=hg;obtain⟨ev,rfl,a,cap,rfl,hcap,hcm,hlen,hc⟩:=hg';have hl:=hk.len;obtain⟨i0,hi,hz0,hz1,hz2⟩:=info_parts Tryz.infoPair;go_enter Tryz.func187,Tryz.ntmps187;go_wp2
 go_loopw [3,4] (fun t i wr=>∃k:Nat,k≤g.es.length∧i= .int .i64 k∧wr.ownsRow (w.heap.size+1) 291 2 t (endsOf (g.es.take k)).length (pairCells (endsOf (g.es.take k)))∧
  Below (w.alloc (.cells #[.int .i64 g.n,.slice a g.es.length cap] 28)).heap.size (w.alloc (.cells #[.int .i64 g.n,.slice a g.es.length cap] 28)) wr)
  (fun _ i _=>g.es.length-(intOf i).toNat)
 case atStart=>exact⟨0,Nat.zero_le _,rfl,World.ownsRow_nil _ _ _ _,Below.refl _ _⟩
 case round=>
  obtain⟨k,hkn,rfl,hown,hB⟩:=hrel;obtain⟨r1,r2⟩:=bcell hB;have hBw:Below w.heap.size w wr:=up (by go_grown) hB;by_cases hlt:k<g.es.length
  ·have HT:=hid (take_step g.es k hlt)
   have HM:=hid (hk.ends k hlt);generalize hx:g.es[k]?.getD default=x at HT HM;have HX:=hid hx;clear hx;obtain⟨_,_,_,hm1,hm2⟩:=HM.out;go_wp2;obtain⟨wo,hwo⟩:∃wo:World,wo=wr:=⟨_,rfl⟩;rw[← hwo]at hB r1 r2 hBw hown⊢;clear hwo wr
   go_loopw [3,5] (fun t i wr=>∃j:Nat,j≤x.m.toNat∧i= .int .i64 j∧
    wr.ownsRow (w.heap.size+1) 291 2 t (endsOf (g.es.take k)++List.replicate j (x.a,x.b)).length (pairCells (endsOf (g.es.take k)++List.replicate j (x.a,x.b)))∧
    Below (w.alloc (.cells #[.int .i64 g.n,.slice a g.es.length cap] 28)).heap.size (w.alloc (.cells #[.int .i64 g.n,.slice a g.es.length cap] 28)) wr)
    (fun _ i _=>x.m.toNat-(intOf i).toNat)
   case atStart=>exact⟨0,Nat.zero_le _,rfl,by simpa using hown,hB⟩
   case round=>
    clear hown r1 r2 hB hBw;obtain⟨j,hj,rfl,hown,hB⟩:=hrel;obtain⟨r1,r2⟩:=bcell hB;have hBw:Below w.heap.size w wr:=up (by go_grown) hB;have hs:w.heap.size+1≤wr.heap.size:=by have:=hB.size;simpa using this
    obtain⟨b,off,rfl,hb,hcc⟩:=(hc.below hBw).edge (by omega);obtain⟨c1,c2,c3⟩:=hcc k hlt;clear hcc;rw[HX.out]at c1 c2 c3;have hb':∀k,b<wr.heap.size+k:=fun k=>by omega
    by_cases hjm:j<x.m.toNat
    ·have hjm':(j:Int)<x.m:=by omega
     go_wp2;have hl1:=endsOf_len (g.es.take k) 50 (fun y hy=>by have:=hk.mem (List.mem_of_mem_take hy);omega);have hl2:(endsOf (g.es.take k)++List.replicate j (x.a,x.b)).length≤100000:=by
      have:(g.es.take k).length≤k:=List.length_take_le _ _;simp only[List.length_append,List.length_replicate];omega
     go_region_law (refine step_append_own rfl (.tmp 23) (.tmp 37) 251 rfl (w.heap.size+1) 291 i0 _ 2 16 Tryz.underEnds hi hz0 hz1 hz2 rfl (by decide) _ _ _ rfl (ownsRow_ad hown _) ⟨wr.heap.size,0,none⟩ 1 1 [.int .i64 x.a,.int .i64 x.b] rfl rfl (fun j u h=>news_ad wr [.int .i64 x.a,.int .i64 x.b] _ j u h) (by simp[Value.oneCell']) (by unfold maxLen;omega) (by omega) (by simp;omega) ?_;intro v' w1 hown' hgrow _)
     all_goals
      have hB1:=below_append hB hown (by simp) (by simp;omega) (grown_ad wr _ none) hgrow
      clear hown hgrow
      go_wp2
      go_roundw
      case rel=>
       refine⟨j+1,by omega,by go_num,?_,hB1⟩;have e:endsOf (g.es.take k)++List.replicate (j+1) (x.a,x.b)=(endsOf (g.es.take k)++List.replicate j (x.a,x.b))++[(x.a,x.b)]:=by
        rw[List.replicate_succ',List.append_assoc]
       rw[e,pairCells_append,List.length_append];exact hown'
      case measure=>simp[intOf];omega
    ·have hjm':¬(j:Int)<x.m:=by omega
     go_wp2;go_roundw
     case rel=>
      obtain rfl:j=x.m.toNat:=by omega
      refine⟨k+1,by omega,by go_num,?_,hB⟩;rw[HT.out,endsOf_append];simpa[endsOf]using hown
     case measure=>simp[intOf];omega
  ·obtain rfl:k=g.es.length:=by omega
   go_wp2;go_ret;rw[List.take_length]at hown;exact⟨_,rfl,owns_base hown (by omega),hBw⟩
theorem r08_Size (g:G)(gv:Value)(w:World)(hg:GrR w gv g)(hk:Gok g):
 Calls Tryz.prog 138 #[gv] w fun e w'=>e= .returned (.int .i64 (sizeOf g))∧Below w.heap.size w w':=by
 have hg':=hg;obtain⟨ev,rfl,_⟩:=hg';have hgr:=hid (hg.below (w':=w.alloc (.cells #[.int .i64 g.n,ev] 28)) (by go_grown));go_enter Tryz.func138,Tryz.ntmps138;go_wp2_with (go_at_call 187;refine(r08_Ends g _ _ hgr.out hk).mono ?_;rintro e w' ⟨v,rfl,hown,hB⟩;obtain⟨a,cap,rfl⟩:=owns_slice hown);go_ret;exact⟨rfl,up (by go_grown) hB⟩
def smallB (g:G)(n s:Int):Bool:=
 if 40<g.es.length then false else if checkErr g≠0 then true else decide (g.n≤n)&&decide (sizeOf g≤s)
theorem r08_small (g:G)(gv:Value)(n s:Int)(w:World)(hg:GrR w gv g):
 Calls Tryz.prog 90 #[gv,.int .i64 n,.int .i64 s] w fun e w'=>e= .returned (.bool (smallB g n s))∧Below w.heap.size w w':=by
 have hg':=hg;obtain⟨ev,rfl,a,cap,rfl,_⟩:=hg';have hgr:=hid (hg.below (w':=w.alloc (.cells #[.int .i64 g.n,.slice a g.es.length cap] 28)) (by go_grown));generalize hz:smallB g n s=z;unfold smallB at hz;have HZ:=hid hz;clear hz;by_cases h40:40<g.es.length
 ·go_enter Tryz.func90,Tryz.ntmps90
  go_wp2;go_ret;exact⟨ret_bool (by rw[← HZ.out,if_pos h40]),by go_grown⟩
 ·by_cases hc:checkErr g=0
  ·have hcN:=hid hc
   have hcB:(checkErr g !=0)=false:=by simp[hc]
   clear hc;by_cases hn:g.n≤n
   ·go_enter Tryz.func90,Tryz.ntmps90
    go_wp2_with (first
     |(go_at_call 61;refine(r08_Check g _ _ hgr.out).mono ?_;rintro e w1 ⟨rfl,hB1⟩;obtain⟨r1,r2⟩:=bcell hB1)
     |(go_at_call 138;refine(r08_Size g _ _ (hgr.out.below (by assumption)) hcN.out).mono ?_;rintro e w2 ⟨rfl,hB2⟩))
    all_goals
     go_ret
     refine⟨ret_bool ?_,up (up (by go_grown) hB1) hB2⟩
     rw[← HZ.out,if_neg h40,if_neg (by simpa using hcN.out)];simp[hn]
   ·go_enter Tryz.func90,Tryz.ntmps90
    go_wp2_with (go_at_call 61;refine(r08_Check g _ _ hgr.out).mono ?_;rintro e w1 ⟨rfl,hB1⟩;obtain⟨r1,r2⟩:=bcell hB1)
    all_goals
     go_ret
     refine⟨ret_bool ?_,up (by go_grown) hB1⟩
     rw[← HZ.out,if_neg h40,if_neg (by simpa using hcN.out)];simp;omega
  ·have hcB:(checkErr g !=0)=true:=by simp[hc]
   go_enter Tryz.func90,Tryz.ntmps90;go_wp2_with (go_at_call 61;refine(r08_Check g _ _ hgr.out).mono ?_;rintro e w1 ⟨rfl,hB1⟩;obtain⟨r1,r2⟩:=bcell hB1)
   all_goals
    go_ret
    refine⟨ret_bool ?_,up (by go_grown) hB1⟩
    rw[← HZ.out,if_neg h40,if_pos (by simpa using hc)]
theorem r08_Few (g:G)(gv:Value)(w:World)(hg:GrR w gv g):
 Calls Tryz.prog 46 #[gv] w fun e w'=>e= .returned (.bool (smallB g 6 9))∧Below w.heap.size w w':=by
 have hg':=hg;obtain⟨ev,rfl,_⟩:=hg';have hgr:=hid (hg.below (w':=w.alloc (.cells #[.int .i64 g.n,ev] 28)) (by go_grown));go_enter Tryz.func46,Tryz.ntmps46;go_wp2_with (go_at_call 90;refine(r08_small g _ _ _ _ hgr.out).mono ?_;rintro e w' ⟨rfl,hB⟩);go_ret;exact⟨rfl,up (by go_grown) hB⟩
theorem r17_In (k:Int)(w:World):
 Calls Tryz.prog 47 #[.int .i64 k] w fun e w'=>e= .returned (.bool (inB k))∧w=w':=by
 generalize hz:inB k=z;unfold inB at hz;have HZ:=hid hz;clear hz;go_enter Tryz.func47,Tryz.ntmps47;go_wp2
 all_goals
  go_ret
  exact⟨ret_bool (by rw[← HZ.out];simp;omega),rfl⟩
theorem r17_Check (ds:List Int)(dv:Value)(n:Int)(w:World)(hd:IntsR w dv ds):
 Calls Tryz.prog 63 #[dv,.int .i64 n] w fun e w'=>e= .returned (.int .i64 (dErr ds n))∧w=w':=by
 obtain⟨a,cap,rfl,hcap,hcm,hlen,hc⟩:=hd;generalize hz:dErr ds n=z;unfold dErr at hz;by_cases hn:n<1∨12<n
 ·rw[if_pos hn]at hz
  subst hz;rcases hn with hn|hn
  all_goals
   go_enter Tryz.func63,Tryz.ntmps63
   go_wp2
   all_goals(go_ret;exact⟨rfl,rfl⟩)
 rw[if_neg hn]at hz;have h1:1≤n:=by omega
 have h2:n≤12:=by omega
 by_cases hl:(ds.length:Int)=n
 case neg=>
  rw[if_pos (by simpa using hl)]at hz;subst hz;have hb:((ds.length:Int)!=n)=true:=by simpa using hl
  clear hn;go_enter Tryz.func63,Tryz.ntmps63;go_wp2;all_goals(go_ret;exact⟨rfl,rfl⟩)
 rw[if_neg (by simpa using hl)]at hz;have hb:((ds.length:Int)!=n)=false:=by simpa using hl
 have HZ:=hid hz;have HL:=hid hl;clear hz hn hl;go_enter Tryz.func63,Tryz.ntmps63;go_wp2
 go_loop [5] (fun i=>∃k:Nat,k≤ds.length∧i= .int .i64 k∧Hid ((if (ds.drop k).all inB then(0:Int)else 2)=z))
  (fun i=>ds.length-(intOf i).toNat)
 case atStart=>exact⟨0,Nat.zero_le _,rfl,HZ⟩
 case round=>
  obtain⟨k,hk,rfl,HZ⟩:=hrel;by_cases hlt:k<ds.length
  ·have hlt':(k:Int)<n:=by have:=HL.out;omega
   obtain⟨b,off,rfl,hb,hcc⟩:=hc.int (by omega);have c1:=hcc k hlt;clear hcc hc;have HS:=hid (drop_step ds k hlt);have hx:ds[k]?.getD default=ds[k]?.getD 0:=rfl;rw[hx]at HS;clear hx;generalize ds[k]?.getD 0=x at*
   cases hi:inB x with
   |true=>
    go_wp2_with (go_at_call 47;refine(r17_In _ _).mono ?_;rintro e w' ⟨rfl,rfl⟩)
    go_round
    case rel=>exact⟨k+1,by omega,by go_num,hid (by have:=HZ.out;rw[HS.out]at this;simpa[hi]using this)⟩
    case measure=>simp[intOf];omega
   |false=>
    go_wp2_with (go_at_call 47;refine(r17_In _ _).mono ?_;rintro e w' ⟨rfl,rfl⟩)
    go_ret
    exact⟨ret_int (by have:=HZ.out;rw[HS.out]at this;simpa[hi]using this),rfl⟩
  ·have hlt':¬(k:Int)<n:=by have:=HL.out;omega
   go_wp2;go_ret;exact⟨ret_int (by have:=HZ.out;rw[List.drop_eq_nil_of_le (by omega)]at this;simpa using this),rfl⟩
theorem q_plain (g:G)(gv:Value)(w:World)(hg:GrR w gv g):
 Calls Tryz.prog 66 #[gv] w fun e w'=>e= .returned (.bool (zeroG g))∧Below w.heap.size w w':=by
 obtain⟨ev,rfl,a,cap,rfl,hcap,hcm,hlen,hc⟩:=hg;have HZ:Hid (zeroG g=((g.n==0)&&((g.es.length:Int)==0))):=by
  show _=_;unfold zeroG;rw[Bool.eq_iff_iff];simp[List.length_eq_zero_iff]
 clear hc hlen hcap hcm;cases h0:(g.n==0)with
 |false=>
  go_enter Tryz.func66,Tryz.ntmps66
  go_wp2_with fail
  all_goals(go_ret;exact⟨by rw[HZ.out,h0];rfl,by go_grown⟩)
 |true=>
  go_enter Tryz.func66,Tryz.ntmps66
  go_wp2_with fail
  all_goals(go_ret;exact⟨by rw[HZ.out,h0];rfl,by go_grown⟩)
def digR (u:Nat):List Int:=if h:u=0 then[]else((u%10:Nat):Int)::digR (u/10)
termination_by u
decreasing_by omega
theorem digR_zero:digR 0=[]:=by rw[digR,dif_pos rfl]
theorem digR_step {u:Nat}(h:u≠0):digR u=((u%10:Nat):Int)::digR (u/10):=by
 conv=>lhs;rw[digR,dif_neg h]
theorem digR_in:∀(k u:Nat),u≤k→∀d∈digR u,0≤d∧d<10
 |0,u,h,d,hd=>by
  obtain rfl:u=0:=by omega
  rw[digR_zero]at hd;cases hd
 |k+1,u,h,d,hd=>by
  by_cases hu:u=0
  ·subst hu;rw[digR_zero]at hd;cases hd
  ·rw[digR_step hu,List.mem_cons]at hd
   rcases hd with rfl|hd
   ·omega
   ·exact digR_in k (u/10) (by omega) d hd
theorem digR_len:∀(k u:Nat),u<10^k→(digR u).length≤k
 |0,u,h=>by
  obtain rfl:u=0:=by simp at h;omega
  rw[digR_zero];simp
 |k+1,u,h=>by
  by_cases hu:u=0
  ·subst hu;rw[digR_zero];simp
  ·rw[digR_step hu,List.length_cons]
   have:=digR_len k (u/10) (by rw[Nat.pow_succ]at h;omega);omega
def digB (d:Int):UInt8:=UInt8.ofNat (48+d.toNat)
def revT (l:List Int):List UInt8:=(l.map digB).reverse
theorem revT_dec:∀(k u:Nat),u≤k→u≠0→revT (digR u)=Lib.decDigits u
 |0,u,h,h0=>by omega
 |k+1,u,h,h0=>by
  rw[digR_step h0];by_cases h10:u<10
  ·rw[show u/10=0 by omega,digR_zero,Lib.decDigits,dif_pos h10,show u%10=u by omega]
   rfl
  ·have ih:=revT_dec k (u/10) (by omega) (by omega)
   unfold revT at ih⊢;rw[List.map_cons,List.reverse_cons,ih];conv=>rhs;rw[Lib.decDigits,dif_neg h10]
   rfl
def text01 (l:List Int)(b:Bool):List UInt8:=if l=[]then[48]else if b then 45::revT l else revT l
theorem text01_itoa (n:Int):text01 (digR n.natAbs) (decide (n<0))=Lib.itoa n:=by
 unfold text01;by_cases h0:n=0
 ·subst h0
  show(if digR 0=[]then[48]else _)=_;rw[digR_zero,if_pos rfl];decide +kernel
 ·have hu:n.natAbs≠0:=by omega
  have hne:digR n.natAbs≠[]:=by rw[digR_step hu];simp
  rw[if_neg hne,revT_dec _ _ (Nat.le_refl _) hu];by_cases hn:n<0
  ·rw[if_pos (by simpa using hn),itoa_neg hn,itoa_nat (by omega)]
   congr 2;omega
  ·rw[if_neg (by simpa using hn),itoa_nat (by omega)]
   congr 1;omega
theorem und_bytesY:Tryz.prog.underlying 122=some (.slice 5):=by kernel_rfl
theorem und_byteY:Tryz.prog.underlying 5=some (.int .u8):=by kernel_rfl
theorem digB_cell {d:Int}(h0:0≤d)(h1:d<10):Go.strOfNums [48+d]=str [digB d]:=by
 obtain⟨n,rfl⟩:∃n:Nat,d=n:=⟨d.toNat,by omega⟩;rfl
theorem str_mY (a:List UInt8):({data:= #[45]}:ByteArray)++str a=str (45::a):=by
 apply ByteArray.ext;simp[str]
theorem q_text01 (l:List Int)(b:Bool)(v:Value)(w:World)(hl:IntsR w v l)(hd:∀d∈l,0≤d∧d<10)(hn:l.length≤1000):
 Calls Tryz.prog 133 #[v,.bool b] w fun e w'=>e= .returned (.string (str (text01 l b)))∧Below w.heap.size w w':=by
 have HL:=hid hl;have HD:=hid hd;obtain⟨a,cap,rfl,hcap,hcm,_,hcc⟩:=hl;have HC:=hid hcc;clear hcc;obtain⟨Z,HZ⟩:∃Z,Hid (Z=text01 l b):=⟨_,rfl⟩;rw[← HZ.out];clear hd;by_cases h0:l.length=0
 ·have hz:Hid (Z=[48]):=by
   show _=_;rw[HZ.out,List.length_eq_zero_iff.1 h0];rfl
  have hb:((l.length:Int)==0)=true:=by simp;exact List.length_eq_zero_iff.1 h0
  go_enter Tryz.func133,Tryz.ntmps133;go_wp2_with fail;go_ret;exact⟨by rw[hz.out];rfl,Below.refl _ _⟩
 ·have hb:((l.length:Int)==0)=false:=by simp;exact fun h=>h0 (by rw[h];rfl)
  have hz:Hid (Z=if b then 45::revT l else revT l):=by
   show _=_;rw[HZ.out];unfold text01;rw[if_neg (fun h=>h0 (by rw[h];rfl))]
  go_enter Tryz.func133,Tryz.ntmps133;go_wp2_with fail
  go_loopw [6,5] (fun i s wr=>∃k:Nat,k≤l.length∧i= .int .i64 k∧s= .string (str (revT (l.take k)))∧Hid (Below w.heap.size w wr))
   (fun i _ _=>l.length-(intOf i).toNat)
  case atStart=>exact⟨0,Nat.zero_le _,rfl,rfl,Below.refl _ _⟩
  case round=>
   obtain⟨k,hk,rfl,rfl,HB⟩:=hrel;have hrl:(revT (l.take k)).length≤1000:=by unfold revT;simp;omega
   have hrz:=str_size (revT (l.take k));by_cases hlt:k<l.length
   ·have hlt':(k:Int)<(l.length:Int):=by omega
    have hk0:(0:Int)≤(k:Int):=by omega
    have wk:IntKind.i64.wrap ((k:Int)+1)=(k:Int)+1:=IntWalk.i64_in _ (by omega);obtain⟨hx0,hx1⟩:0≤l[k]?.getD 0∧l[k]?.getD 0<10:=by
     rw[List.getElem?_eq_getElem hlt];exact HD.out _ (List.getElem_mem hlt)
    have HTK:Hid (revT (l.take (k+1))=digB (l[k]?.getD 0)::revT (l.take k)):=by
     show _=_;unfold revT;rw[List.take_succ_eq_append_getElem hlt,List.map_append,List.reverse_append,List.getElem?_eq_getElem hlt];rfl
    obtain⟨b',off,rfl,hb',hcs⟩:=(HC.out.below HB.out).int (by omega);have c0:=hcs k hlt;clear hcs;generalize l[k]?.getD 0=x at*
    have wx:IntKind.i64.wrap (48+x)=48+x:=IntWalk.i64_in _ (by omega);have wx8:IntKind.u8.wrap (48+x)=48+x:=by
     have:=IntKind.wrap_u8 (48+x);omega
    have hcv:=run_convert_bytes_arg (P:=Tryz.prog) (wr.alloc (.cells #[.int .u8 (48+x)] 5)) 122 5 und_bytesY und_byteY wr.heap.size 0 1 1 [48+x] rfl (fun i hi=>by
     obtain rfl:i=0:=by omega
     rw[(Blk.new wr _ _).cell];rfl)
    rw[digB_cell hx0 hx1]at hcv;have zd:(str [digB x]).size=1:=str_size _;generalize hrv:revT (l.take k)=rv at*
    have HRV:=hid hrv;clear hrv;go_wp2_with fail;rw[str_two];go_roundw;case rel=>exact⟨k+1,by omega,by go_num,by rw[HTK.out];rfl,HB.out.alloc HB.out.size _⟩
    case measure=>simp[intOf];omega
   ·obtain rfl:k=l.length:=by omega
    have hlt':¬(l.length:Int)<(l.length:Int):=by omega
    rw[List.take_length]at*
    have HB2:=hid HB.out;generalize revT l=rv at*
    clear HB;cases b with
    |false=>
     go_wp2_with fail
     go_ret
     exact⟨by rw[hz.out];rfl,HB2.out⟩
    |true=>
     go_wp2_with fail
     rw[str_mY]
     go_ret
     exact⟨by rw[hz.out];rfl,HB2.out⟩
theorem q_OfP (m:Nat)(hb:m≤1000000000)(w:World):
 Calls Tryz.prog 86 #[.int .i64 (m:Int)] w fun e w'=>e= .returned (.string (str (Lib.itoa (m:Int))))∧Below w.heap.size w w':=by
 obtain⟨Z,HZ⟩:∃Z,Hid (Z=Lib.itoa (m:Int)):=⟨_,rfl⟩;rw[← HZ.out];have HT:Hid (Z=text01 (digR m) false):=by
  show _=_;rw[HZ.out,←text01_itoa];rw[show ((m:Int)).natAbs=m by omega,show decide ((m:Int)<0)=false by simp]
 have HDI:=hid (digR_in m m (Nat.le_refl _));have HDL:=hid (digR_len 10 m (by omega));have hI:¬(m:Int)<0:=by omega
 clear HZ;go_enter Tryz.func86,Tryz.ntmps86;go_wp2_with fail
 go_loopw [0,4] (fun i t wr=>∃(u:Nat) (xs:List Int),u≤m∧i= .int .i64 ((u:Int))∧Hid (digR m=xs++digR u)∧Hid (wr.ownsRow w.heap.size 3 1 t xs.length (xs.map (Value.int .i64)))∧Hid (Below w.heap.size w wr))
  (fun i _ _=>(intOf i).natAbs)
 case atStart=>exact⟨m,[],Nat.le_refl _,rfl,rfl,World.ownsRow_nil _ _ _ _,Below.refl _ _⟩
 case round=>
  obtain⟨u,xs,hu,rfl,HX,HO,HB⟩:=hrel;have hxl:xs.length≤10:=by
   have h:=HDL.out;rw[HX.out,List.length_append]at h;omega
  by_cases h0:u=0
  ·subst h0
   have hXX:digR m=xs:=by rw[HX.out,digR_zero,List.append_nil]
   have HO2:=hid HO.out;have HT2:Hid (Z=text01 xs false):=by show _=_;rw[HT.out,hXX]
   have HD2:Hid (∀ d∈xs,0≤d∧d<10):=fun d hd=>HDI.out d (by rw[hXX];exact hd);have hne:True:=by
    trivial
   obtain⟨a,cap,rfl,h1,h2,h3⟩:=owns_at HO.out;have HIR:Hid (IntsR wr (.slice a xs.length cap) xs):=⟨a,cap,rfl,h1,h2,by omega,h3⟩;clear HX HO HDI HDL hXX h1 h2 h3 HT hne;go_wp2_with fail;refine(q_text01 xs false _ wr HIR.out HD2.out (by omega)).mono ?_;rintro e w2 ⟨rfl,hB2⟩;dsimp only;go_wp2_with fail;go_ret;exact⟨by rw[HT2.out];rfl,up HB.out hB2⟩
  ·have HST:=hid (digR_step h0)
   have hu0:((u:Int)!=0)=true:=by simp;omega
   have hq:((u:Int)).tdiv 10=((u/10:Nat):Int):=by
    rfl
   have hr:((u:Int)).tmod 10=((u%10:Nat):Int):=by
    rfl
   have HX2:Hid (digR m=(xs++[((u%10:Nat):Int)])++digR (u/10)):=by
    show _=_;rw[HX.out,HST.out];simp
   have hdq:u/10<u:=by omega
   have hdm:u%10<10:=by omega
   generalize u/10=q at*
   generalize u%10=r at*
   have wq:IntKind.i64.wrap ((q:Int))=(q:Int):=IntWalk.i64_in _ (by omega);have wr1:IntKind.i64.wrap (r:Int)=(r:Int):=IntWalk.i64_in _ (by omega);have wr2:IntKind.i64.wrap (-(r:Int))= -(r:Int):=IntWalk.i64_in _ (by omega);have hs:=HB.out.size;have ho:=HO.out;clear HX HST;have hrI:¬(r:Int)<0:=by omega
   go_wp2_with (at_builtin;refine wpList_app1 wr rfl _ _ 29 rfl 3 und_ints info_int w.heap.size _ xs ho (r:Int) wr.heap.size rfl rfl rfl (by omega) hs ?_;intro v' w3 hown3 hgr3 hbk;have HO3:=hid hown3;have HB3:=hid (below_grown HB.out hs hgr3 hbk (Nat.le_refl _));clear hown3 hgr3 hbk);go_roundw;case rel=>exact⟨q,xs++[(r:Int)],by omega,by go_num,HX2,HO3,HB3⟩
   case measure=>simp[intOf];omega
theorem q_OfN (m:Nat)(hm:0<m)(hb:m≤1000000000)(w:World):
 Calls Tryz.prog 86 #[.int .i64 (-(m:Int))] w fun e w'=>e= .returned (.string (str (Lib.itoa (-(m:Int)))))∧Below w.heap.size w w':=by
 obtain⟨Z,HZ⟩:∃Z,Hid (Z=Lib.itoa (-(m:Int))):=⟨_,rfl⟩;rw[← HZ.out];have HT:Hid (Z=text01 (digR m) true):=by
  show _=_;rw[HZ.out,←text01_itoa];rw[show ((-(m:Int))).natAbs=m by omega,show decide ((-(m:Int))<0)=true by simp;omega]
 have HDI:=hid (digR_in m m (Nat.le_refl _));have HDL:=hid (digR_len 10 m (by omega));have hI: -(m:Int)<0:=by omega
 clear HZ;go_enter Tryz.func86,Tryz.ntmps86;go_wp2_with fail
 go_loopw [0,4] (fun i t wr=>∃(u:Nat) (xs:List Int),u≤m∧i= .int .i64 (-(u:Int))∧Hid (digR m=xs++digR u)∧Hid (wr.ownsRow w.heap.size 3 1 t xs.length (xs.map (Value.int .i64)))∧Hid (Below w.heap.size w wr))
  (fun i _ _=>(intOf i).natAbs)
 case atStart=>exact⟨m,[],Nat.le_refl _,rfl,rfl,World.ownsRow_nil _ _ _ _,Below.refl _ _⟩
 case round=>
  obtain⟨u,xs,hu,rfl,HX,HO,HB⟩:=hrel;have hxl:xs.length≤10:=by
   have h:=HDL.out;rw[HX.out,List.length_append]at h;omega
  by_cases h0:u=0
  ·subst h0
   have hXX:digR m=xs:=by rw[HX.out,digR_zero,List.append_nil]
   have HO2:=hid HO.out;have HT2:Hid (Z=text01 xs true):=by show _=_;rw[HT.out,hXX]
   have HD2:Hid (∀ d∈xs,0≤d∧d<10):=fun d hd=>HDI.out d (by rw[hXX];exact hd);have hne:¬xs.length=0:=by
    intro h;rw[List.length_eq_zero_iff.1 h,digR_step (by omega)]at hXX;cases hXX
   obtain⟨a,cap,rfl,h1,h2,h3⟩:=owns_at HO.out;have HIR:Hid (IntsR wr (.slice a xs.length cap) xs):=⟨a,cap,rfl,h1,h2,by omega,h3⟩;have hl0:((xs.length:Int)==0)=false:=by simp;exact fun h=>hne (by rw[h];rfl)
   clear HX HO HDI HDL hXX h1 h2 h3 HT hne;go_wp2_with fail;refine(q_text01 xs true _ wr HIR.out HD2.out (by omega)).mono ?_;rintro e w2 ⟨rfl,hB2⟩;dsimp only;go_wp2_with fail;go_ret;exact⟨by rw[HT2.out];rfl,up HB.out hB2⟩
  ·have HST:=hid (digR_step h0)
   have hu0:(-(u:Int)!=0)=true:=by simp;omega
   have hq:(-(u:Int)).tdiv 10= -((u/10:Nat):Int):=by
    rw[Int.neg_tdiv];rfl
   have hr:(-(u:Int)).tmod 10= -((u%10:Nat):Int):=by
    rw[Int.neg_tmod];rfl
   have HX2:Hid (digR m=(xs++[((u%10:Nat):Int)])++digR (u/10)):=by
    show _=_;rw[HX.out,HST.out];simp
   have hdq:u/10<u:=by omega
   have hdm:u%10<10:=by omega
   generalize u/10=q at*
   generalize u%10=r at*
   have wq:IntKind.i64.wrap (-(q:Int))= -(q:Int):=IntWalk.i64_in _ (by omega);have wr1:IntKind.i64.wrap (r:Int)=(r:Int):=IntWalk.i64_in _ (by omega);have wr2:IntKind.i64.wrap (-(r:Int))= -(r:Int):=IntWalk.i64_in _ (by omega);have hs:=HB.out.size;have ho:=HO.out;clear HX HST;by_cases hr0:r=0
   ·have hrI:¬ -(r:Int)<0:=by omega
    subst hr0;go_wp2_with (at_builtin;refine wpList_app1 wr rfl _ _ 29 rfl 3 und_ints info_int w.heap.size _ xs ho 0 wr.heap.size rfl rfl rfl (by omega) hs ?_;intro v' w3 hown3 hgr3 hbk;have HO3:=hid hown3;have HB3:=hid (below_grown HB.out hs hgr3 hbk (Nat.le_refl _));clear hown3 hgr3 hbk);go_roundw;case rel=>exact⟨q,xs++[0],by omega,by go_num,HX2,HO3,HB3⟩
    case measure=>simp[intOf];omega
   ·have hrI: -(r:Int)<0:=by omega
    have hrn:IntKind.i64.wrap (- -(r:Int))=(r:Int):=by rw[Int.neg_neg];exact wr1
    go_wp2_with (at_builtin;refine wpList_app1 wr rfl _ _ 29 rfl 3 und_ints info_int w.heap.size _ xs ho (r:Int) wr.heap.size rfl rfl rfl (by omega) hs ?_;intro v' w3 hown3 hgr3 hbk;have HO3:=hid hown3;have HB3:=hid (below_grown HB.out hs hgr3 hbk (Nat.le_refl _));clear hown3 hgr3 hbk);go_roundw;case rel=>exact⟨q,xs++[(r:Int)],by omega,by go_num,HX2,HO3,HB3⟩
    case measure=>simp[intOf];omega
theorem q_Of (n:Int)(h0: -1000000000≤n)(h1:n≤1000000000)(w:World):
 Calls Tryz.prog 86 #[.int .i64 n] w fun e w'=>e= .returned (.string (str (Lib.itoa n)))∧Below w.heap.size w w':=by
 by_cases hn:n<0
 ·obtain⟨m,rfl⟩:∃m:Nat,n= -(m:Int):=⟨n.natAbs,by omega⟩
  exact q_OfN m (by omega) (by omega) w
 ·obtain⟨m,rfl⟩:∃m:Nat,n=(m:Int):=⟨n.toNat,by omega⟩
  exact q_OfP m (by omega) w
theorem itoa_len {n:Int}(h0: -1000000000≤n)(h1:n≤1000000000):(Lib.itoa n).length≤11:=by
 by_cases h:n<0
 ·rw[itoa_neg h,itoa_nat (by omega),List.length_cons,Lib.decDigits_length]
  have:=ndig_le 10 (-n).toNat (by omega) (by decide);omega
 ·rw[itoa_nat (by omega),Lib.decDigits_length]
  have:=ndig_le 10 n.toNat (by omega) (by decide);omega
theorem intsT_lenY:∀(l:List Int),(∀ x∈l,-1000000000≤x∧x≤1000000000)→(intsT l).length≤12*l.length
 |[],_=>by simp[intsT]
 |n::l,h=>by
  have ih:=intsT_lenY l (fun x hx=>h x (.tail _ hx));have:=h n (.head _);have:=itoa_len this.1 this.2;rw[intsT_cons];simp;omega
theorem str_s1Y (b:List UInt8):({data:= #[32]}:ByteArray)++str b=str (32::b):=by
 apply ByteArray.ext;simp[str]
theorem q_listed (l:List Int)(v:Value)(w:World)(hl:IntsR w v l)(hd:∀x∈l,-1000000000≤x∧x≤1000000000)(hn:l.length≤1000):
 Calls Tryz.prog 110 #[v] w fun e w'=>e= .returned (.string (str (intsT l)))∧Below w.heap.size w w':=by
 have HL:=hid hl;have HD:=hid hd;obtain⟨a,cap,rfl,hcap,hcm,_,hcc⟩:=hl;have HC:=hid hcc;clear hcc hd;obtain⟨Z,HZ⟩:∃Z,Hid (Z=intsT l):=⟨_,rfl⟩;rw[← HZ.out];go_enter Tryz.func110,Tryz.ntmps110;go_wp2_with fail
 go_loopw [4,3] (fun i s wr=>∃k:Nat,k≤l.length∧i= .int .i64 k∧s= .string (str (intsT (l.take k)))∧Hid (Below w.heap.size w wr))
  (fun i _ _=>l.length-(intOf i).toNat)
 case atStart=>exact⟨0,Nat.zero_le _,rfl,rfl,Below.refl _ _⟩
 case round=>
  obtain⟨k,hk,rfl,rfl,HB⟩:=hrel;have hrl:(intsT (l.take k)).length≤12*k:=by
   have:=intsT_lenY (l.take k) (fun x hx=>HD.out x (List.mem_of_mem_take hx));rw[List.length_take]at this;omega
  have hrz:=str_size (intsT (l.take k));by_cases hlt:k<l.length
  ·have hlt':(k:Int)<(l.length:Int):=by omega
   have hk0:(0:Int)≤(k:Int):=by omega
   have wk:IntKind.i64.wrap ((k:Int)+1)=(k:Int)+1:=IntWalk.i64_in _ (by omega);obtain⟨hx0,hx1⟩: -1000000000≤l[k]?.getD 0∧l[k]?.getD 0≤1000000000:=by
    rw[List.getElem?_eq_getElem hlt];exact HD.out _ (List.getElem_mem hlt)
   have HTK:Hid (intsT (l.take (k+1))=intsT (l.take k)++32::Lib.itoa (l[k]?.getD 0)):=by
    show _=_;unfold intsT;rw[List.take_succ_eq_append_getElem hlt,List.flatMap_append,List.getElem?_eq_getElem hlt];simp
   obtain⟨b',off,rfl,hb',hcs⟩:=(HC.out.below HB.out).int (by omega);have c0:=hcs k hlt;clear hcs;generalize l[k]?.getD 0=x at*
   generalize hrv:intsT (l.take k)=rv at*
   have HRV:=hid hrv;have HAT:=hid (q_Of x hx0 hx1 wr);have hil:=itoa_len hx0 hx1;have ziT:=str_size (Lib.itoa x);generalize Lib.itoa x=it at*
   have zs1:(str (32::it)).size=it.length+1:=str_size _;clear hrv;go_wp2_with fail;refine HAT.out.mono ?_;rintro e w2 ⟨rfl,hB2⟩;have HB2:=hid (up HB.out hB2);clear hB2 HAT HB c0;dsimp only;go_wp2_with (rw [str_s1Y]);rw[str_two];go_roundw;case rel=>exact⟨k+1,by omega,by go_num,by rw[HTK.out],HB2⟩
   case measure=>simp[intOf];omega
  ·obtain rfl:k=l.length:=by omega
   have hlt':¬(l.length:Int)<(l.length:Int):=by omega
   rw[List.take_length]at*
   go_wp2_with fail;go_ret;exact⟨by rw[HZ.out];rfl,HB.out⟩
end Go.Proofs.YtclgllmipcbagaaGreatDoor
