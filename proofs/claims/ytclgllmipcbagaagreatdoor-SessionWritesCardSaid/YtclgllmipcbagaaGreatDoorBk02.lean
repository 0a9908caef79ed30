/-
  Parts of the proof: XP1 XR08 XR19b XR19d XP2
-/
import Derived.Test.YtclgllmipcbagaaGreatDoorProg
import Derived.StillTailTactics
import Derived.Deep.DeepCutAuto
import Derived.Deep.AppendLies
import Derived.Deep.RegionHeld3
import Derived.Test.YtclgllmipcbagaaGreatDoorBk00
namespace Go.Proofs.YtclgllmipcbagaaGreatDoor
open Go.RowKit
set_option linter.unusedVariables false
set_option linter.unusedSimpArgs false
set_option maxRecDepth 100000
set_option maxHeartbeats 16000000
theorem p_vertex (n v:Int)(w:World):
 Calls Tryz.prog 161 #[.int .i64 n,.int .i64 v] w fun e w'=>e= .returned (.bool (vtx n v))∧w=w':=by
 go_enter Tryz.func161,Tryz.ntmps161;go_wp2
 ·go_ret
  have h:0≤v:=by assumption
  exact⟨by simp[vtx,h],rfl⟩
 ·go_ret
  have h:v<0:=by assumption
  exact⟨by simp[vtx];omega,rfl⟩
theorem c_isNaN (x:Int)(w:World):Calls Tryz.prog 288 #[.int .i64 x] w fun e w'=>e= .returned (.bool false)∧w=w':=by
 go_enter Tryz.func288,Tryz.ntmps288;go_wp2;go_ret;exact⟨rfl,rfl⟩
def cmpI (a b:Int):Int:=if a<b then -1 else if b<a then 1 else 0
theorem c_Compare (a b:Int)(w:World):Calls Tryz.prog 220 #[.int .i64 a,.int .i64 b] w fun e w'=>e= .returned (.int .i64 (cmpI a b))∧w=w':=by
 generalize hz:cmpI a b=z;unfold cmpI at hz;have HZ:=hid hz;clear hz;go_enter Tryz.func220,Tryz.ntmps220;go_wp2_with (go_at_call 288;refine(c_isNaN _ _).mono ?_;rintro e w1 ⟨rfl,rfl⟩);all_goals(go_ret;refine⟨ret_int ?_,rfl⟩;have hz:=HZ.out;clear HZ;first|grind|skip)
theorem c_Or2 (a b:Int)(B c:Nat)(w:World)(hB:B<w.heap.size)(h0:w.cell? ⟨B,0,none⟩=some (.int .i64 a))(h1:w.cell? ⟨B,1,none⟩=some (.int .i64 b))(hc:2≤c):
 Calls Tryz.prog 219 #[.slice (some ⟨B,0,none⟩) 2 c] w fun e w'=>e= .returned (.int .i64 (if a≠0 then a else b))∧w=w':=by
 by_cases ha:a=0
 ·subst ha
  rw[if_neg (by simp)];go_enter Tryz.func219,Tryz.ntmps219;go_wp2;go_loopw [8] (fun i wr=>∃k:Nat,k≤2∧i= .int .i64 k∧Hid (2≤k→b=0)∧Hid (w=wr)) (fun i _=>2-(intOf i).toNat);case atStart=>exact⟨0,by omega,rfl,by intro h;omega,rfl⟩
  case round=>
   obtain⟨k,hk,rfl,H2,HE⟩:=hrel;obtain rfl:=HE.out;have h3:k=0∨k=1∨k=2:=by omega
   rcases h3 with rfl|rfl|rfl
   ·go_wp2
    go_roundw;case rel=>exact⟨1,by omega,rfl,by intro h;omega,True.intro⟩
    case measure=>simp[intOf]
   ·by_cases hb:b=0
    ·subst hb
     go_wp2;go_roundw;case rel=>exact⟨2,by omega,rfl,by intro _;trivial,True.intro⟩
     case measure=>simp[intOf]
    ·go_wp2
     all_goals(go_ret;exact⟨rfl,rfl⟩)
   ·obtain rfl:=H2.out (by omega)
    go_wp2;go_ret;exact⟨rfl,rfl⟩
 ·rw[if_pos ha]
  go_enter Tryz.func219,Tryz.ntmps219;go_wp2;go_loopw [8] (fun i wr=>i= .int .i64 0∧Hid (w=wr)) (fun i _=>0);case atStart=>exact⟨rfl,rfl⟩
  case round=>
   obtain⟨rfl,HE⟩:=hrel;obtain rfl:=HE.out;go_wp2;all_goals(go_ret;exact⟨rfl,rfl⟩)
def cmpP (a b c d:Int):Int:=if cmpI a c≠0 then cmpI a c else cmpI b d
theorem cmpP_ge (a b c d:Int):(cmpP a b c d<0)↔(a<c∨a=c∧b<d):=by
 unfold cmpP cmpI;grind
theorem p_compare (a b c d:Int)(w:World):Calls Tryz.prog 162 #[.agg #[.int .i64 a,.int .i64 b],.agg #[.int .i64 c,.int .i64 d]] w
 fun e w'=>e= .returned (.int .i64 (cmpP a b c d))∧Below w.heap.size w w':=by
 have HZ:=hid (show cmpP a b c d=if cmpI a c≠0 then cmpI a c else cmpI b d from rfl);go_enter Tryz.func162,Tryz.ntmps162;go_upto_region 1 with fail;obtain⟨W0,hW0⟩:∃W:World,W=((w.alloc (.cells #[.int .i64 a,.int .i64 b] 215)).alloc (.cells #[.int .i64 c,.int .i64 d] 215)):=⟨_,rfl⟩;rw[← hW0];have e1:W0.cell? ⟨w.heap.size,0,none⟩=some (.int .i64 a):=by rw[hW0];simp
 have e2:W0.cell? ⟨w.heap.size,1,none⟩=some (.int .i64 b):=by rw[hW0];simp
 have e3:W0.cell? ⟨w.heap.size+1,0,none⟩=some (.int .i64 c):=by rw[hW0];simp
 have e4:W0.cell? ⟨w.heap.size+1,1,none⟩=some (.int .i64 d):=by rw[hW0];simp
 have hBw:Below w.heap.size w W0:=by rw[hW0];go_grown
 have hs0:w.heap.size≤W0.heap.size:=hBw.size;clear hW0;let S:World→Prop:=fun w'=>w'.cell? ⟨w.heap.size,0,none⟩=some (.int .i64 a)∧w'.cell? ⟨w.heap.size,1,none⟩=some (.int .i64 b)∧w'.cell? ⟨w.heap.size+1,0,none⟩=some (.int .i64 c)∧w'.cell? ⟨w.heap.size+1,1,none⟩=some (.int .i64 d)
 (refine wp_region_text 10 [0,1,2,3,5,6,7,8,4,9] S (by kernel_rfl) (by kernel_rfl) (by intro _ _ d _ _ h;cases d<;>exact h) ?hS ?_;rotate_left;simp only[xA,xB,xC,xD,xE,xF]);case hS=>exact⟨e1,e2,e3,e4⟩
 (repeat ((refine' wpSeq_take rfl _ (by rfl) ?_ ?_;rotate_left;focus(intro w' hS;(try dsimp only at hS);obtain⟨s1,s2,s3,s4⟩:=hS;go_simp;(first|done|with_reducible rfl));(try go_frame));(try go_frame)));(refine wpSeq_call rfl (by rfl) (fun K hK=> ?_);go_simp;refine(c_Compare _ _ _).mono ?_;rintro e w1 ⟨rfl,rfl⟩;refine hK _ _ (⟨e1,e2,e3,e4⟩) ?_;clear hK K;(try go_frame));(refine wpSeq_call rfl (by rfl) (fun K hK=> ?_);go_simp;refine(c_Compare _ _ _).mono ?_;rintro e w1 ⟨rfl,rfl⟩;refine hK _ _ (⟨e1,e2,e3,e4⟩) ?_;clear hK K;(try go_frame));refine wpSeq_nil ?_;clear e1 e2 e3 e4 S;have H1:W0.heap.size<(W0.alloc (.cells #[.int .i64 (cmpI a c),.int .i64 (cmpI b d)] 3)).drew.heap.size:=by simp
 have H2:(W0.alloc (.cells #[.int .i64 (cmpI a c),.int .i64 (cmpI b d)] 3)).drew.cell? ⟨W0.heap.size,0,none⟩=some (.int .i64 (cmpI a c)):=by simp
 have H3:(W0.alloc (.cells #[.int .i64 (cmpI a c),.int .i64 (cmpI b d)] 3)).drew.cell? ⟨W0.heap.size,1,none⟩=some (.int .i64 (cmpI b d)):=by simp
 have hor:=hid (c_Or2 (cmpI a c) (cmpI b d) W0.heap.size 2 _ H1 H2 H3 (Nat.le_refl _));rw[← HZ.out]at hor;clear H1 H2 H3;go_wp2_with (go_at_call 219;refine hor.out.mono ?_;rintro e w1 ⟨rfl,rfl⟩);go_ret;exact⟨rfl,by go_grown⟩
def lastA (g:G)(k:Nat):Int:=if k=0 then -1 else(g.es[k-1]?.getD default).a
def lastB (g:G)(k:Nat):Int:=if k=0 then -1 else(g.es[k-1]?.getD default).b
theorem p_Check (g:G)(gv:Value)(w:World)(hg:GrR w gv g):
 Calls Tryz.prog 103 #[gv] w fun e w'=>e= .returned (.int .i64 (checkErr g))∧Below w.heap.size w w':=by
 have hg':=hg;obtain⟨ev,rfl,a,cap,rfl,hcap,hcm,hlen,hc⟩:=hg';generalize hz:checkErr g=z;unfold checkErr at hz;by_cases hn:g.n<1∨12<g.n
 ·rw[if_pos hn]at hz
  subst hz;rcases hn with hn|hn
  all_goals
   go_enter Tryz.func103,Tryz.ntmps103
   go_wp2
   all_goals(go_ret;exact⟨rfl,by go_grown⟩)
 rw[if_neg hn]at hz;have h1:1≤g.n:=by omega
 have h2:g.n≤12:=by omega
 have HZ:=hid hz;clear hz hn;go_enter Tryz.func103,Tryz.ntmps103;go_wp2;obtain⟨W0,hW0⟩:∃W:World,W=((w.alloc (.cells #[.int .i64 g.n,.slice a g.es.length cap] 28)).alloc (.cells #[.int .i64 (-1),.int .i64 (-1)] 215)):=⟨_,rfl⟩;rw[← hW0];have e1:W0.cell? ⟨w.heap.size,0,none⟩=some (.int .i64 g.n):=by rw[hW0];simp
 have hBk:Blk W0 (w.heap.size+1) #[.int .i64 (-1),.int .i64 (-1)] 215:=by rw[hW0];have:=Blk.new (w.alloc (.cells #[.int .i64 g.n,.slice a g.es.length cap] 28)) #[.int .i64 (-1),.int .i64 (-1)] 215;simpa using this
 have hBw:Below w.heap.size w W0:=by rw[hW0];go_grown
 have hs1:W0.heap.size=w.heap.size+2:=by rw[hW0];simp
 clear hW0
 go_loopw [19] (fun i wr=>∃k:Nat,k≤g.es.length∧i= .int .i64 k∧Hid (firstNZ (edgeErr g) k (g.es.length-k)=z)∧Blk wr (w.heap.size+1) #[.int .i64 (lastA g k),.int .i64 (lastB g k)] 215∧Below (w.heap.size+1) W0 wr)
  (fun i _=>g.es.length-(intOf i).toNat)
 case atStart=>exact⟨0,Nat.zero_le _,rfl,HZ,hBk,Below.refl _ _⟩
 case round=>
  obtain⟨k,hk,rfl,HZ,hBk,hB⟩:=hrel;obtain⟨r1,r2⟩:=bcellB hB;have e1':=(r1 w.heap.size 0 (by omega)).trans e1;have c0:wr.cell? ⟨w.heap.size+1,0,none⟩=some (.int .i64 (lastA g k)):=hBk.cell 0;have c1:wr.cell? ⟨w.heap.size+1,1,none⟩=some (.int .i64 (lastB g k)):=hBk.cell 1;have f0:wr.frozen? ⟨w.heap.size+1,0,none⟩=false:=hBk.frozen 0;have f1:wr.frozen? ⟨w.heap.size+1,1,none⟩=false:=hBk.frozen 1;have hlt:=hBk.lt;have hltk:∀j,w.heap.size+1<wr.heap.size+j:=fun j=>by omega
  have hlt0:∀j,w.heap.size<wr.heap.size+j:=fun j=>by omega
  have hlt0':w.heap.size<wr.heap.size:=by omega
  have hBr:Below w.heap.size w wr:=hBw.trans (hB.mono (by omega));clear r1 r2 e1 hBw;by_cases hlt:k<g.es.length
  ·obtain⟨b,off,rfl,hb,hc⟩:=(hc.below hBr).edge (by omega)
   obtain⟨q1,q2,q3⟩:=hc k hlt;clear hc;have hS:=hid (show firstNZ (edgeErr g) k (g.es.length-k)=if edgeErr g k≠0 then edgeErr g k else firstNZ (edgeErr g) (k+1) (g.es.length-(k+1)) by
    rw[show g.es.length-k=(g.es.length-(k+1))+1 by omega];rfl)
   have hl0:Hid (k=0→lastA g k= -1∧lastB g k= -1):=by rintro rfl;exact⟨rfl,rfl⟩
   have hl1:Hid (k≠0→lastA g k=(g.es[k-1]?.getD default).a∧lastB g k=(g.es[k-1]?.getD default).b):=by intro h;unfold lastA lastB;rw[if_neg h,if_neg h];exact⟨rfl,rfl⟩
   have hnA:Hid ((g.es[k]?.getD default).a=lastA g (k+1)):=by show _=_;simp[lastA]
   have hnB:Hid ((g.es[k]?.getD default).b=lastB g (k+1)):=by show _=_;simp[lastB]
   have hE:=hid (show edgeErr g k=_ from by unfold edgeErr;exact rfl);generalize lastA g k=la at*
   generalize lastB g k=lb at*
   generalize g.es[k]?.getD default=x at*
   have hb':∀j,b<wr.heap.size+j:=fun j=>by omega
   have hcp:=hid (cmpP_ge la lb x.a x.b);cases hv1:vtx g.n x.a with
   |false=>
    go_wp2_with (go_at_call 161;refine(p_vertex _ _ _).mono ?_;rintro e w1 ⟨rfl,rfl⟩)
    all_goals(go_ret;refine⟨ret_int ?_,by go_grown⟩;have hz:=HZ.out;have hs:=hS.out;have he:=hE.out;clear HZ hS hE hl0 hl1 hnA hnB hcp;grind)
   |true=>
    cases hv2:vtx g.n x.b with
    |false=>
     go_wp2_with (go_at_call 161;refine(p_vertex _ _ _).mono ?_;rintro e w1 ⟨rfl,rfl⟩)
     all_goals(go_ret;refine⟨ret_int ?_,by go_grown⟩;have hz:=HZ.out;have hs:=hS.out;have he:=hE.out;clear HZ hS hE hl0 hl1 hnA hnB hcp;grind)
    |true=>
     have hva:0≤x.a:=by unfold vtx at hv1;simp at hv1;omega
     go_wp2_with (first
      |(go_at_call 161;refine(p_vertex _ _ _).mono ?_;rintro e w1 ⟨rfl,rfl⟩)
      |(go_at_call 162;refine(p_compare _ _ _ _ _).mono ?_;rintro e w1 ⟨rfl,hB1⟩;obtain⟨r1,r2⟩:=bcell hB1;have u0:=hB1.size))
     all_goals first
      |(go_ret;refine⟨ret_int ?_,up hBr (up (by go_grown) hB1)⟩;have hz:=HZ.out;have hs:=hS.out;have he:=hE.out;have h0:=hl0.out;have h1:=hl1.out;have hc:=hcp.out;clear HZ hS hE hl0 hl1 hnA hnB hcp;grind)
      |(go_ret;refine⟨ret_int ?_,by go_grown⟩;have hz:=HZ.out;have hs:=hS.out;have he:=hE.out;clear HZ hS hE hl0 hl1 hnA hnB hcp;grind)
      |(go_roundw
        case rel=>
         refine⟨k+1,by omega,by go_num,hid ?_,?_,?_⟩
         ·have hz:=HZ.out;have hs:=hS.out;have he:=hE.out;have h0:=hl0.out;have h1:=hl1.out;have hc:=hcp.out;clear HZ hS hE hl0 hl1 hnA hnB hcp;grind
         ·rw[← hnA.out,←hnB.out]
          exact((((hBk.alloc _).alloc _).below hB1).set 0 _).set 1 _
         ·have hA:Below wr.heap.size wr w1:=up (by go_grown) hB1
          exact((hB.trans (hA.mono (by omega))).setCell (by exact Nat.le_refl _) _).setCell (by exact Nat.le_refl _) _
        case measure=>simp[intOf];omega)
  ·have hke:k=g.es.length:=by omega
   subst hke;go_wp2;go_ret;refine⟨ret_int ?_,by go_grown⟩;have hz:=HZ.out;rw[Nat.sub_self]at hz;exact hz
theorem owns_slice {w:World}{base:Nat}{e:TypeId}{size:Nat}{v:Value}{n:Nat}{xs:List Value}(h:w.ownsRow base e size v n xs):∃a cap,v= .slice a n cap:=by
 rcases h.2 with ⟨rfl,rfl⟩|⟨g,cap,cur,rfl,_⟩
 ·exact⟨_,_,rfl⟩
 ·exact⟨_,_,rfl⟩
def sizeOf (g:G):Int:=(endsOf g.es).length
theorem Tryz.underInts:Tryz.prog.underlying 29=some (.slice 3):=by kernel_rfl
theorem Tryz.underDiv:Tryz.prog.underlying 65=some (.slice 3):=by kernel_rfl
theorem Tryz.infoInt:(Tryz.prog.info? 3).map (fun i=>(i.zero,i.size,i.bytes))=some (some (.int .i64 0),1,8):=by kernel_rfl
def vals (g:G)(k:Nat):List Int:=vecOf k fun v=>valence g v
theorem Tryz.underMat:Tryz.prog.underlying 244=some (.slice 29):=by kernel_rfl
theorem Tryz.infoRow:(Tryz.prog.info? 29).map (fun i=>(i.zero,i.size,i.bytes))=some (some (.slice none 0 0),1,24):=by kernel_rfl
theorem p_within (k:Int)(w:World):
 Calls Tryz.prog 164 #[.int .i64 k] w fun e w'=>e= .returned (.bool (inB k))∧w=w':=by
 generalize hz:inB k=z;unfold inB at hz;have HZ:=hid hz;clear hz;go_enter Tryz.func164,Tryz.ntmps164;go_wp2
 all_goals
  go_ret
  exact⟨ret_bool (by rw[← HZ.out];simp;omega),rfl⟩
theorem p_vertices (n:Int)(w:World):Calls Tryz.prog 163 #[.int .i64 n] w fun e w'=>e= .returned (.int .i64 (if n<1∨12<n then 2 else 0))∧w=w':=by
 generalize hz:(if n<1∨12<n then(2:Int)else 0)=z;have HZ:=hid hz;clear hz;go_enter Tryz.func163,Tryz.ntmps163;go_wp2;all_goals(go_ret;refine⟨ret_int ?_,rfl⟩;have hz:=HZ.out;clear HZ;grind)
theorem p_chips (ds:List Int)(dv:Value)(n:Int)(w:World)(hd:IntsR w dv ds):
 Calls Tryz.prog 104 #[dv,.int .i64 n] w fun e w'=>e= .returned (.int .i64 (dErr ds n))∧w=w':=by
 obtain⟨a,cap,rfl,hcap,hcm,hlen,hc⟩:=hd;generalize hz:dErr ds n=z;unfold dErr at hz;by_cases hn:n<1∨12<n
 ·rw[if_pos hn]at hz
  subst hz;have hv:=hid (p_vertices n w);rw[if_pos hn]at hv;clear hn;go_enter Tryz.func104,Tryz.ntmps104;go_wp2_with (go_at_call 163;refine hv.out.mono ?_;rintro e w' ⟨rfl,rfl⟩);all_goals(go_ret;exact⟨rfl,rfl⟩)
 rw[if_neg hn]at hz;have hv:=hid (p_vertices n w);rw[if_neg hn]at hv;have h1:1≤n:=by omega
 have h2:n≤12:=by omega
 by_cases hl:(ds.length:Int)=n
 case neg=>
  rw[if_pos (by simpa using hl)]at hz;subst hz;have hb:((ds.length:Int)!=n)=true:=by simpa using hl
  clear hn;go_enter Tryz.func104,Tryz.ntmps104;go_wp2_with (go_at_call 163;refine hv.out.mono ?_;rintro e w' ⟨rfl,rfl⟩);all_goals(go_ret;exact⟨rfl,rfl⟩)
 rw[if_neg (by simpa using hl)]at hz;have hb:((ds.length:Int)!=n)=false:=by simpa using hl
 have HZ:=hid hz;have HL:=hid hl;clear hz hn hl;go_enter Tryz.func104,Tryz.ntmps104;go_wp2_with (go_at_call 163;refine hv.out.mono ?_;rintro e w' ⟨rfl,rfl⟩)
 go_loop [19] (fun i=>∃k:Nat,k≤ds.length∧i= .int .i64 k∧Hid ((if (ds.drop k).all inB then(0:Int)else 2)=z))
  (fun i=>ds.length-(intOf i).toNat)
 case atStart=>exact⟨0,Nat.zero_le _,rfl,HZ⟩
 case round=>
  obtain⟨k,hk,rfl,HZ⟩:=hrel;by_cases hlt:k<ds.length
  ·have hlt':(k:Int)<n:=by have:=HL.out;omega
   obtain⟨b,off,rfl,hb,hcc⟩:=hc.int (by omega);have c1:=hcc k hlt;clear hcc hc;have HS:=hid (drop_step ds k hlt);have hx:ds[k]?.getD default=ds[k]?.getD 0:=rfl;rw[hx]at HS;clear hx;generalize ds[k]?.getD 0=x at*
   cases hi:inB x with
   |true=>
    go_wp2_with (go_at_call 164;refine(p_within _ _).mono ?_;rintro e w' ⟨rfl,rfl⟩)
    go_round
    case rel=>exact⟨k+1,by omega,by go_num,hid (by have:=HZ.out;rw[HS.out]at this;simpa[hi]using this)⟩
    case measure=>simp[intOf];omega
   |false=>
    go_wp2_with (go_at_call 164;refine(p_within _ _).mono ?_;rintro e w' ⟨rfl,rfl⟩)
    go_ret
    exact⟨ret_int (by have:=HZ.out;rw[HS.out]at this;simpa[hi]using this),rfl⟩
  ·have hlt':¬(k:Int)<n:=by have:=HL.out;omega
   go_wp2;go_ret;exact⟨ret_int (by have:=HZ.out;rw[List.drop_eq_nil_of_le (by omega)]at this;simpa using this),rfl⟩
end Go.Proofs.YtclgllmipcbagaaGreatDoor
