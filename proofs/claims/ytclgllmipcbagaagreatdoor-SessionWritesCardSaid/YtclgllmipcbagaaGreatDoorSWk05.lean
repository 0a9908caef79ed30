/-
  Parts of the proof: XN39 XN40 XN41 XY9
-/
import Derived.Test.YtclgllmipcbagaaGreatDoorSWk04
import Derived.Test.YtclgllmipcbagaaGreatDoorSWk03
import Derived.Test.YtclgllmipcbagaaGreatDoorSWk02
namespace Go.Proofs.YtclgllmipcbagaaGreatDoor
set_option linter.unusedVariables false
set_option linter.unusedSimpArgs false
set_option maxRecDepth 100000
set_option maxHeartbeats 16000000
open Go.RowKit
def RetMq (T1 T0:TypeId)(w:World)(N:Nat)(f:Nat→Nat→Int)(e:Ending)(w':World):Prop:=∃v bs,e= .returned v∧OwnM T1 T0 w' w.heap.size v N N bs f∧Below w.heap.size w w'
theorem q_Table (n:Int)(N:Nat)(h1:n≤(N:Int))(h2:(N:Int)≤n)(h3:n≤100)(w:World):
 Calls Tryz.prog 244 #[.int .i64 n] w (RetMq 29 3 w N fun _ _=>0):=by
 have HN:Hid (n.toNat=N):=by show _=_;omega
 obtain⟨i0,hi,hz0,hz1,hz2⟩:=info_parts info_ints;go_enter Tryz.func244,Tryz.ntmps244;go_wp2
 go_loopw [3,4] (fun t i wr=>∃(k:Nat) (bs:Nat→Nat),k≤N∧i= .int .i64 k∧OwnM 29 3 wr w.heap.size t N k bs (fun _ _=>0)∧Below w.heap.size w wr)
  (fun _ i _=>N-(intOf i).toNat)
 case atStart=>exact⟨0,fun _=>0,Nat.zero_le _,rfl,OwnM.zero _ _ _ _ _ _ _,Below.refl _ _⟩
 case round=>
  obtain⟨k,bs,hk,rfl,hM,hB⟩:=hrel;have hs:=hB.size;by_cases hlt:k<N
  ·have hlt':(k:Int)<n:=by omega
   have ho:=hM.outer.lt
   go_wp2_with (first
    |(at_make;refine wpList_mk1 _ (Value.int .i64) 0 rfl _ _ 29 rfl w.heap.size 3 8 und_ints info_int rfl n rfl rfl (by omega) (by omega) (by omega) wr.heap.size rfl (by omega) ?_;intro w1 hrow hB1;rw[HN.out]at hrow ⊢;have hs1:=hB1.size)
    |(at_builtin;refine wpList_append_own _ rfl (.tmp 10) (.tmp 13) 244 rfl w.heap.size 29 i0 (.slice none 0 0) 1 24 und_lists hi hz0 hz1 hz2 rfl (by decide) _ k _ rfl ((hM.below hB1).outer.alloc _) ⟨w1.heap.size,0,none⟩ 1 1 [.slice (some ⟨wr.heap.size,0,none⟩) N N] rfl rfl (cell_one_new _ _ _) (by simp[Value.oneCell']) (by unfold maxLen;omega) (by omega) (by simp;omega) ?_;intro v' w2 hown2 hgr2 _))
   go_roundw
   case rel=>
    have hM1:=hM.below hB1;have hbk:∀i,i<k→bs i≠wr.heap.size:=fun i hi=>by have:=hM.lt i hi;omega
    refine⟨k+1,_,by omega,by go_num,hM1.snoc (b:=wr.heap.size) ?_ hbk hown2 ?_,?_⟩
    ·rw[vecOf_zero]at hrow
     refine(hrow.alloc _).kept hgr2 (.inr ?_);intro e;have:=ho _ e.symm;dsimp only at this;omega
    ·intro i hi
     exact((hM1.row i hi).alloc _).kept hgr2 (.inr fun e=>hM.blk (by decide) i hi e.symm)
    ·exact(((hB.trans (hB1.mono hs)).alloc (by omega) _).grown hgr2 (by simp;omega) (fun q hq=>(ho q hq).1))
   case measure=>simp[intOf];omega
  ·have hlt':¬(k:Int)<n:=by omega
   obtain rfl:k=N:=by omega
   go_wp2;go_ret;exact⟨_,_,rfl,hM,hB⟩
theorem tabG_end (sign:UInt8)(either:Bool)(n:Int)(f:Nat)(M:Int→Int→Int)(s:Rs)(h:s.more=false):tabG sign either n f M s=(M,s):=by
 cases f with
 |zero=>rfl
 |succ f=>unfold tabG;rw[if_pos h]
theorem tabG_step (sign:UInt8)(either:Bool)(n:Int)(f:Nat)(M:Int→Int→Int)(s:Rs)(h:s.more=true)(x:Ln)(s2:Rs)(hx:s.line sign n=(x,s2)):
 tabG sign either n (f+1) M s=if s2.e≠0 then(M,s2)else if 50<M (lo either x) (hi either x)+x.m then(M,s2.fail 5 x.pl)else tabG sign either n f (addM M (lo either x) (hi either x) x.m) s2:=by
 conv=>lhs;unfold tabG
 rw[if_neg (by rw[h];decide)];dsimp only;rw[hx]
theorem tabG_fuel (sign:UInt8)(either:Bool)(n:Int):∀(f g:Nat) (M:Int→Int→Int) (s:Rs),TsOk s.ts→s.ts.length≤f→s.ts.length≤g→tabG sign either n f M s=tabG sign either n g M s
 |0,_,M,s,h,h1,_=>by have:=h.1;omega
 |_,0,M,s,h,_,h2=>by have:=h.1;omega
 |f+1,g+1,M,s,h,h1,h2=>by
  cases hm:s.more with
  |false=>rw[tabG_end _ _ _ _ _ _ hm,tabG_end _ _ _ _ _ _ hm]
  |true=>
   have hl:=line_ts h sign n
   rw[tabG_step _ _ _ f _ _ hm (s.line sign n).1 (s.line sign n).2 rfl,tabG_step _ _ _ g _ _ hm (s.line sign n).1 (s.line sign n).2 rfl]
   generalize s.line sign n=p at*
   split
   ·rfl
   ·split
    ·rfl
    ·have:=hl.2.2 (by omega)
     exact tabG_fuel sign either n f g _ _ hl.1 (by omega) (by omega)
def natM (M:Int→Int→Int)(i j:Nat):Int:=M (i:Int) (j:Int)
def RetTb (w:World)(b tb:Nat)(L:List Tok)(N:Nat)(z:(Int→Int→Int)×Rs)(e:Ending)(w':World):Prop:=
 ∃v bs,e= .returned v∧OwnM 29 3 w' w.heap.size v N N bs (natM z.1)∧Rk w' b tb L z.2∧w.grownBy w' (some b)
structure RmI (w0 w:World)(b tb:Nat)(L:List Tok)(N go co:Nat)(bs:Nat→Nat)(M:Int→Int→Int)(s:Rs):Prop where
 m:OwnM 29 3 w w0.heap.size (.slice (some ⟨go,0,none⟩) N co) N N bs (natM M)
 tk:Rk w b tb L s
 g:w0.grownBy w (some b)
 hb:b<w0.heap.size
 htb:tb<w0.heap.size
section
variable {w0 w w' : World} {b tb : Nat} {L : List Tok} {N go co : Nat} {bs : Nat → Nat} {M : Int → Int → Int} {s s' : Rs}
theorem RmI.step (h:RmI w0 w b tb L N go co bs M s)(ht:Rk w' b tb L s')(hg:w.grownBy w' (some b)):RmI w0 w' b tb L N go co bs M s':=
 ⟨h.m.kept hg (.inr (fun e=>by have:=(h.m.outer.lt _ e).1;have:=h.hb;omega)) (fun i hi e=>by have:=(h.m.lt i hi).1;have:=h.hb;simp at e;omega),ht,grown_trans h.g hg,h.hb,h.htb⟩
theorem RmI.below (h:RmI w0 w b tb L N go co bs M s)(hB:Below w.heap.size w w'):RmI w0 w' b tb L N go co bs M s:=h.step (h.tk.below hB) (grown_of hB _)
theorem RmI.put (h:RmI w0 w b tb L N go co bs M s){i j:Nat}(hi:i<N)(hj:j<N)(m x:Int)(hx:x=M i j+m):RmI w0 (w.setCell ⟨bs i,j,none⟩ (.int .i64 x)) b tb L N go co bs (addM M i j m) s:=by
 have hl:=h.m.lt i hi;have h1:=h.hb;have h2:=h.htb;refine⟨(h.m.set (by decide) i j hi x).congr _ (fun i' j' _ _=> ?_),h.tk.setO (by omega) (by omega) j _,grown_setN _ _ _ _ hl.1 _ h.g,h1,h2⟩;unfold natM addM;by_cases e:i'=i∧j'=j
 ·obtain⟨rfl,rfl⟩:=e
  rw[if_pos ⟨rfl,rfl⟩,if_pos ⟨rfl,rfl⟩,hx]
 ·rw[if_neg e,if_neg (by omega)]
end
theorem addM_le {M:Int→Int→Int}(h:∀x y,0≤M x y∧M x y≤50){a b m:Int}(hm:0≤m)(h50:M a b+m≤50):∀x y,0≤addM M a b m x y∧addM M a b m x y≤50:=fun x y=>by
 unfold addM;have h1:=h a b;have h2:=h x y;split<;>omega
theorem q_table (n:Int)(N:Nat)(hN1:(N:Int)≤n)(hN2:n≤(N:Int))(hn1:1≤n)(hn2:n≤12)(sign:UInt8)(either:Bool)(L:List Tok)(s:Rs)(b tb:Nat)(w:World)(h:Rk w b tb L s):
 Calls Tryz.prog 181 #[.pointer (some ⟨b,0,none⟩),.int .i64 n,.string (str [sign]),.bool either] w (RetTb w b tb L N (tabG sign either n s.ts.length (fun _ _=>0) s)):=by
 obtain⟨Z,hZ⟩:∃Z,Z=tabG sign either n s.ts.length (fun _ _=>0) s:=⟨_,rfl⟩;rw[← hZ];have HZ:=hid hZ.symm;have HT:=hid h;have HNN:=hid (show (N:Int)≤n∧n≤(N:Int)∧1≤n∧n≤12 from⟨hN1,hN2,hn1,hn2⟩);have HLN:=hid (fun (s:Rs) (w:World) (h:Rk w b tb L s)=>q_line w b tb L s h n sign (by omega));have HTB:=hid (fun w=>q_Table n N hN2 hN1 (by omega) w);clear hZ h hN1 hN2 hn1 hn2;go_enter Tryz.func181,Tryz.ntmps181;go_wp2_with fail;refine(HTB.out w).mono ?_;rintro e w1 ⟨tv,bs,rfl,hM,hB1⟩;obtain⟨go,co,rfl,_,_⟩:=owns_some hM.outer (by have:=HNN.out;omega);have h0:Hid (RmI w w1 b tb L N go co bs (fun _ _=>0) s):=by
  obtain⟨_,_,_,htb,_⟩:=HT.out.cells;exact⟨hM.congr _ (fun _ _ _ _=>rfl),HT.out.below hB1,grown_of hB1 _,HT.out.lt,htb⟩
 have hok:=hid HT.out.1;clear hM hB1 HTB HT;dsimp only;go_wp2_with fail;go_loopg [12] (s.ts.length+1) (fun k v wr=>∃M s',Hid (RmI w wr b tb L N go co bs M s')∧Hid (∀ x y,0≤M x y∧M x y≤50)∧Hid (TsOk s'.ts)∧Hid (s'.e=0→s'.ts.length<k)∧Hid (tabG sign either n s'.ts.length M s'=Z));case atStart=>exact⟨_,s,h0,fun _ _=>⟨by decide,by decide⟩,hok,fun _=>by omega,HZ⟩
 case round=>
  clear h0 hok HZ;obtain⟨M,s',HI,HMB,HOK,HK,HZ⟩:=hrel;obtain⟨W1,rfl⟩:∃W:World,W=wr:=⟨_,rfl⟩;go_wp2_with fail;refine(q_done W1 b tb L s' HI.out.tk).mono ?_;rintro e w2 ⟨rfl,hB2⟩;have HI2:=hid (HI.out.below hB2);clear hB2 HI;cases hmr:s'.more with
  |false=>
   have HZ2:Hid ((M,s')=Z):=by show _=_;rw[← HZ.out,tabG_end _ _ _ _ _ _ hmr]
   clear HZ hmr
   dsimp only
   go_wp2_with fail
   go_ret
   refine⟨_,bs,rfl,?_,?_,HI2.out.g⟩
   ·rw[← HZ2.out];exact HI2.out.m
   ·rw[← HZ2.out];exact HI2.out.tk
  |true=>
   have hme:=more_e hmr
   have HM0:=hid (HK.out hme.1)
   have hlz:s'.ts.length=(s'.ts.length-1)+1:=by have:=HOK.out.1;omega
   have HLT:=hid (line_ts HOK.out sign n)
   have hz:=HZ.out
   rw[hlz,tabG_step _ _ _ _ _ _ hmr (s'.line sign n).1 (s'.line sign n).2 rfl]at hz
   have HZ:=hid hz
   clear hz hlz hmr hme HK
   dsimp only
   go_wp2_with fail
   refine(HLN.out s' w2 HI2.out.tk).mono ?_
   rintro e w3 ⟨rfl,ht3,hg3⟩
   have HI3:=hid (HI2.out.step ht3 hg3)
   clear ht3 hg3 HI2
   generalize hp:s'.line sign n=p at*
   obtain⟨x,s2⟩:=p
   clear hp
   have HI3:Hid (RmI w w3 b tb L N go co bs M s2):=HI3
   have HZ:Hid ((if s2.e≠0 then(M,s2)else if 50<M (lo either x) (hi either x)+x.m then(M,s2.fail 5 x.pl)else tabG sign either n (s'.ts.length-1) (addM M (lo either x) (hi either x) x.m) s2)=Z):=HZ
   have HLT:Hid (TsOk s2.ts∧s2.ts.length≤s'.ts.length∧(s2.e=0→s2.ts.length<s'.ts.length∧0≤x.a∧x.a≤n-1∧0≤x.b∧x.b≤n-1∧1≤x.m∧x.m≤50)):=HLT
   unfold LnV
   dsimp only
   go_upto_region 4 with fail
   have HX:=hid (Blk.new w3 #[.int .i64 x.a,.int .i64 x.b,.int .i64 x.m,.int .i64 x.pl] 311)
   have HI4:=hid (HI3.out.below ((Below.refl _ _).alloc (Nat.le_refl _) (.cells #[.int .i64 x.a,.int .i64 x.b,.int .i64 x.m,.int .i64 x.pl] 311)))
   have HXG:Hid (∀ i,i<N→bs i<w3.heap.size):=fun i hi=>(HI3.out.m.lt i hi).2
   have HXB:Hid (b<w3.heap.size):=HI3.out.tk.lt
   clear HI3
   generalize hXX:w3.heap.size=X at*
   generalize w3.alloc (.cells #[.int .i64 x.a,.int .i64 x.b,.int .i64 x.m,.int .i64 x.pl] 311)=W4 at*
   clear hXX
   have d2:W4.cell? ⟨b,2,none⟩=some (.int .i64 s2.e):=by obtain⟨_,_,_,_,_,_,_,_,_,_,_,_,d2,_⟩:=HI4.out.tk.cells;exact d2
   have hbl:=HI4.out.tk.lt
   by_cases he:s2.e=0
   case neg=>
    have HZ2:Hid ((M,s2)=Z):=by have h:=HZ.out;rw[if_pos he]at h;exact h
    have he1:(s2.e !=0)=true:=by simpa using he
    clear HZ he;go_wp2_with fail;go_ret;refine⟨_,bs,rfl,?_,?_,HI4.out.g⟩
    ·rw[← HZ2.out];exact HI4.out.m
    ·rw[← HZ2.out];exact HI4.out.tk
   rw[he]at d2
   have hz:=HZ.out
   rw[if_neg (by omega)]at hz
   obtain⟨hx0,hxa,hxa',hxb,hxb',hxm,hxm'⟩:=HLT.out.2.2 he
   have HLTS:=hid hx0
   have x0:W4.cell? ⟨X,0,none⟩=some (.int .i64 x.a):=(HX.out.cell 0).trans rfl
   have x1:W4.cell? ⟨X,1,none⟩=some (.int .i64 x.b):=(HX.out.cell 1).trans rfl
   have x2:W4.cell? ⟨X,2,none⟩=some (.int .i64 x.m):=(HX.out.cell 2).trans rfl
   have x3:W4.cell? ⟨X,3,none⟩=some (.int .i64 x.pl):=(HX.out.cell 3).trans rfl
   have hXl:=HX.out.lt
   have hNN:=HNN.out
   obtain⟨i,hi⟩:∃i:Nat,lo either x=i:=⟨(lo either x).toNat,by have:0≤lo either x:=(by unfold lo;split<;>omega);omega⟩
   obtain⟨j,hj⟩:∃j:Nat,Go.Proofs.YtclgllmipcbagaaGreatDoor.hi either x=j:=⟨(Go.Proofs.YtclgllmipcbagaaGreatDoor.hi either x).toNat,by have:0≤Go.Proofs.YtclgllmipcbagaaGreatDoor.hi either x:=(by unfold Go.Proofs.YtclgllmipcbagaaGreatDoor.hi;split<;>omega);omega⟩
   have hiN:i<N:=by have:lo either x≤n-1:=(by unfold lo;split<;>omega);omega
   have hjN:j<N:=by have:Go.Proofs.YtclgllmipcbagaaGreatDoor.hi either x≤n-1:=(by unfold Go.Proofs.YtclgllmipcbagaaGreatDoor.hi;split<;>omega);omega
   have hz:(if 50<M (lo either x) (Go.Proofs.YtclgllmipcbagaaGreatDoor.hi either x)+x.m then(M,s2.fail 5 x.pl)else tabG sign either n (s'.ts.length-1) (addM M (lo either x) (Go.Proofs.YtclgllmipcbagaaGreatDoor.hi either x) x.m) s2)=Z:=hz
   rw[hi,hj]at hz
   have HZ:=hid hz
   have HIJ:=hid (And.intro hi hj)
   have hM:=HMB.out i j
   have HXM:=hid hxm
   have HE2:=hid he
   have g0:=HI4.out.m.at i hiN
   have g1:=HI4.out.m.cell i j hiN hjN
   unfold natM at g1
   have hgl:=(HI4.out.m.outer.lt go rfl).2
   have hbil:=(HI4.out.m.lt i hiN).2
   have HBI:Hid (bs i<X):=HXG.out i hiN
   generalize hmv:M (i:Int) (j:Int)=mv at*
   generalize hbs:bs i=bi at*
   have HBS:=hid hbs
   have HMV:=hid hmv
   have k1:(0:Int)≤(i:Int):=by omega
   have k2:(0:Int)≤(j:Int):=by omega
   have k3:(i:Int)<(N:Int):=by omega
   have k4:(j:Int)<(N:Int):=by omega
   have wm:IntKind.i64.wrap (mv+x.m)=mv+x.m:=IntWalk.i64_in _ (by omega)
   clear hz hx0 hbs hmv hNN he
   have hcl:Hid (∀ W',Below W4.heap.size W4 W'→W'.cell? ⟨go,i,none⟩=some (.slice (some ⟨bi,0,none⟩) N N)∧W'.cell? ⟨bi,j,none⟩=some (.int .i64 mv)∧W'.cell? ⟨X,2,none⟩=some (.int .i64 x.m)∧W'.cell? ⟨X,0,none⟩=some (.int .i64 x.a)∧W'.cell? ⟨X,1,none⟩=some (.int .i64 x.b)∧W'.cell? ⟨X,3,none⟩=some (.int .i64 x.pl)):=fun W' hB=>
    ⟨(hB.cell (p:=⟨go,i,none⟩) hgl).trans g0,(hB.cell (p:=⟨bi,j,none⟩) hbil).trans g1,(hB.cell (p:=⟨X,2,none⟩) hXl).trans x2,(hB.cell (p:=⟨X,0,none⟩) hXl).trans x0,(hB.cell (p:=⟨X,1,none⟩) hXl).trans x1,(hB.cell (p:=⟨X,3,none⟩) hXl).trans x3⟩
   clear g0 g1 x0 x1 x2 x3
   go_upto_region 5 with fail
   let S:World→Prop:=fun W'=>Hid (Below W4.heap.size W4 W')
   (refine wp_region_text 5 [0,1,2,3,4] S (by kernel_rfl) (by kernel_rfl) (by intro _ _ d _ _ h;cases d<;>exact h) ?hS ?_;rotate_left;simp only[xA,xB,xC,xD,xE,xF])
   case hS=>exact Below.drew (Below.refl _ _)
   (repeat ((refine' wpSeq_take rfl _ (by rfl) ?_ ?_;rotate_left;focus(intro w' hS;(try dsimp only at hS);obtain⟨s1,s2,s3,s4,s5,s6⟩:=hcl.out _ hS.out;go_simp;(first|done|with_reducible rfl));(try go_frame));(try go_frame)))
   refine wpSeq_nil ?_
   clear S
   have HI4n:=hid (HI4.out.below (Below.drew (Below.refl _ _)))
   have HXn:=hid (Blk.drew HX.out)
   have hcl:=hid (fun (W':World) (hB:Below W4.drew.heap.size W4.drew W')=>hcl.out W' ((Below.drew (Below.refl W4.heap.size W4)).trans hB))
   have hXl:X<W4.drew.heap.size:=hXl
   have hgl:go<W4.drew.heap.size:=hgl
   have hbil:bi<W4.drew.heap.size:=hbil
   clear HI4 HX hbl d2
   generalize W4.drew=W4b at*
   cases either with
   |true=>
    have hA:min x.a x.b=(i:Int):=HIJ.out.1
    have hBm:max x.a x.b=(j:Int):=HIJ.out.2
    clear hi hj hxa hxa' hxb hxb'
    go_upto_region 7 with fail
    let S:World→Prop:=fun W'=>Hid (Below W4b.heap.size W4b W')
    (refine wp_region_text 11 [0,1,2,3,4,5,6,7,8,9,10] S (by kernel_rfl) (by kernel_rfl) (by intro _ _ d _ _ h;cases d<;>exact h) ?hS ?_;rotate_left;simp only[xA,xB,xC,xD,xE,xF])
    case hS=>exact Below.drew (Below.refl _ _)
    (repeat ((refine' wpSeq_take rfl _ (by rfl) ?_ ?_;rotate_left;focus(intro w' hS;(try dsimp only at hS);obtain⟨s1,s2,s3,s4,s5,s6⟩:=hcl.out _ hS.out;go_simp;(first|done|with_reducible rfl));(try go_frame));(try go_frame)))
    refine wpSeq_nil ?_
    clear S
    have HI4nn:=hid (HI4n.out.below (Below.drew (Below.refl _ _)))
    have HXnn:=hid (Blk.drew HXn.out)
    have hcl:=hid (fun (W':World) (hB:Below W4b.drew.heap.size W4b.drew W')=>hcl.out W' ((Below.drew (Below.refl W4b.heap.size W4b)).trans hB))
    have hXl:X<W4b.drew.heap.size:=hXl
    have hgl:go<W4b.drew.heap.size:=hgl
    have hbil:bi<W4b.drew.heap.size:=hbil
    clear HI4n HXn
    generalize W4b.drew=W5 at*
    go_upto_region 8 with fail
    (try rw[hA,hBm])
    clear hA hBm
    have HI5:=HI4nn
    have HX5:=HXnn
    clear HI4nn HXnn
    let S:World→Prop:=fun W'=>Hid (Below W5.heap.size W5 W')
    (refine wp_region_text 10 [0,1,2,3,4,5,6,7,8,9] S (by kernel_rfl) (by kernel_rfl) (by intro _ _ d _ _ h;cases d<;>exact h) ?hS ?_;rotate_left;simp only[xA,xB,xC,xD,xE,xF])
    case hS=>exact Below.drew (Below.refl _ _)
    (repeat ((refine' wpSeq_take rfl _ (by rfl) ?_ ?_;rotate_left;focus(intro w' hS;(try dsimp only at hS);obtain⟨s1,s2,s3,s4,s5,s6⟩:=hcl.out _ hS.out;go_simp;(first|done|with_reducible rfl));(try go_frame));(try go_frame)))
    refine wpSeq_nil ?_
    clear S
    have HI6:=hid (HI5.out.below (Below.drew (Below.refl _ _)))
    have HX6:=hid (Blk.drew HX5.out)
    have hcl:=hid (fun (W':World) (hB:Below W5.drew.heap.size W5.drew W')=>hcl.out W' ((Below.drew (Below.refl W5.heap.size W5)).trans hB))
    have hXl:X<W5.drew.heap.size:=hXl
    have hgl:go<W5.drew.heap.size:=hgl
    have hbil:bi<W5.drew.heap.size:=hbil
    clear HI5 HX5
    generalize W5.drew=W6 at*
    by_cases h50:50<mv+x.m
    ·have HZ2:Hid ((M,s2.fail 5 x.pl)=Z):=by have h:=HZ.out;rw[if_pos h50]at h;exact h
     obtain⟨_,_,_,_,_,x3⟩:=hcl.out W6 (Below.refl _ _);have hbl6:=HI6.out.tk.lt;go_wp2_with fail;refine(q_fail W6 b tb L s2 HI6.out.tk 5 x.pl).mono ?_;rintro e w7 ⟨rfl,h7,g7⟩;have HI7:=hid (HI6.out.step h7 g7);clear h7 g7 HI6;dsimp only;go_wp2_with fail;go_ret;refine⟨_,bs,rfl,?_,?_,HI7.out.g⟩
     ·rw[← HZ2.out];exact HI7.out.m
     ·rw[← HZ2.out];exact HI7.out.tk
    ·have HZ2:Hid (tabG sign true n (s'.ts.length-1) (addM M i j x.m) s2=Z):=by have h:=HZ.out;rw[if_neg h50]at h;exact h
     have H50:=hid h50;go_upto_region 10 with fail;let S:World→Prop:=fun W'=>Hid (Below W6.heap.size W6 W')
     (refine wp_region_text 11 [0,1,2,3,4,5,6,7,8,9,10] S (by kernel_rfl) (by kernel_rfl) (by intro _ _ d _ _ h;cases d<;>exact h) ?hS ?_;rotate_left;simp only[xA,xB,xC,xD,xE,xF]);case hS=>exact Below.drew (Below.refl _ _)
     (repeat ((refine' wpSeq_take rfl _ (by rfl) ?_ ?_;rotate_left;focus(intro w' hS;(try dsimp only at hS);obtain⟨s1,s2,s3,s4,s5,s6⟩:=hcl.out _ hS.out;go_simp;(first|done|with_reducible rfl));(try go_frame));(try go_frame)));refine wpSeq_nil ?_;clear S;have HI7:=hid (HI6.out.below (Below.drew (Below.refl _ _)));obtain⟨_,g1,_⟩:=hcl.out _ (Below.drew (Below.refl W6.heap.size W6));have f1:W6.drew.frozen? ⟨bi,j,none⟩=false:=by rw[← HBS.out];exact HI7.out.m.frozen i j hiN
     have hbil:bi<W6.drew.heap.size:=hbil;clear HI6 h50;generalize W6.drew=W7 at*
     go_wp2_with fail;have HI8:=hid (HI7.out.put hiN hjN x.m (mv+x.m) (by rw[HMV.out]));rw[HBS.out]at HI8;go_roundg (gk-1);case measure=>have:=HM0.out;omega
     case rel=>
      refine⟨_,s2,HI8,addM_le HMB.out (by have:=HXM.out;omega) (by rw[HMV.out];have:=H50.out;omega),HLT.out.1,fun _=>by have:=HLTS.out;have:=HM0.out;omega,?_⟩;show _=_;rw[← HZ2.out];exact tabG_fuel _ _ _ _ _ _ _ HLT.out.1 (Nat.le_refl _) (by have:=HLTS.out;omega)
   |false=>
    have hA:x.a=(i:Int):=HIJ.out.1
    have hBm:x.b=(j:Int):=HIJ.out.2
    clear hi hj hxa hxa' hxb hxb'
    go_upto_region 8 with fail
    rw[hA,hBm]
    clear hA hBm
    have HI5:=HI4n
    have HX5:=HXn
    clear HI4n HXn
    obtain⟨W5,rfl⟩:∃W:World,W=W4b:=⟨_,rfl⟩
    let S:World→Prop:=fun W'=>Hid (Below W5.heap.size W5 W')
    (refine wp_region_text 10 [0,1,2,3,4,5,6,7,8,9] S (by kernel_rfl) (by kernel_rfl) (by intro _ _ d _ _ h;cases d<;>exact h) ?hS ?_;rotate_left;simp only[xA,xB,xC,xD,xE,xF])
    case hS=>exact Below.drew (Below.refl _ _)
    (repeat ((refine' wpSeq_take rfl _ (by rfl) ?_ ?_;rotate_left;focus(intro w' hS;(try dsimp only at hS);obtain⟨s1,s2,s3,s4,s5,s6⟩:=hcl.out _ hS.out;go_simp;(first|done|with_reducible rfl));(try go_frame));(try go_frame)))
    refine wpSeq_nil ?_
    clear S
    have HI6:=hid (HI5.out.below (Below.drew (Below.refl _ _)))
    have HX6:=hid (Blk.drew HX5.out)
    have hcl:=hid (fun (W':World) (hB:Below W5.drew.heap.size W5.drew W')=>hcl.out W' ((Below.drew (Below.refl W5.heap.size W5)).trans hB))
    have hXl:X<W5.drew.heap.size:=hXl
    have hgl:go<W5.drew.heap.size:=hgl
    have hbil:bi<W5.drew.heap.size:=hbil
    clear HI5 HX5
    generalize W5.drew=W6 at*
    by_cases h50:50<mv+x.m
    ·have HZ2:Hid ((M,s2.fail 5 x.pl)=Z):=by have h:=HZ.out;rw[if_pos h50]at h;exact h
     obtain⟨_,_,_,_,_,x3⟩:=hcl.out W6 (Below.refl _ _);have hbl6:=HI6.out.tk.lt;go_wp2_with fail;refine(q_fail W6 b tb L s2 HI6.out.tk 5 x.pl).mono ?_;rintro e w7 ⟨rfl,h7,g7⟩;have HI7:=hid (HI6.out.step h7 g7);clear h7 g7 HI6;dsimp only;go_wp2_with fail;go_ret;refine⟨_,bs,rfl,?_,?_,HI7.out.g⟩
     ·rw[← HZ2.out];exact HI7.out.m
     ·rw[← HZ2.out];exact HI7.out.tk
    ·have HZ2:Hid (tabG sign false n (s'.ts.length-1) (addM M i j x.m) s2=Z):=by have h:=HZ.out;rw[if_neg h50]at h;exact h
     have H50:=hid h50;go_upto_region 10 with fail;let S:World→Prop:=fun W'=>Hid (Below W6.heap.size W6 W')
     (refine wp_region_text 11 [0,1,2,3,4,5,6,7,8,9,10] S (by kernel_rfl) (by kernel_rfl) (by intro _ _ d _ _ h;cases d<;>exact h) ?hS ?_;rotate_left;simp only[xA,xB,xC,xD,xE,xF]);case hS=>exact Below.drew (Below.refl _ _)
     (repeat ((refine' wpSeq_take rfl _ (by rfl) ?_ ?_;rotate_left;focus(intro w' hS;(try dsimp only at hS);obtain⟨s1,s2,s3,s4,s5,s6⟩:=hcl.out _ hS.out;go_simp;(first|done|with_reducible rfl));(try go_frame));(try go_frame)));refine wpSeq_nil ?_;clear S;have HI7:=hid (HI6.out.below (Below.drew (Below.refl _ _)));obtain⟨_,g1,_⟩:=hcl.out _ (Below.drew (Below.refl W6.heap.size W6));have f1:W6.drew.frozen? ⟨bi,j,none⟩=false:=by rw[← HBS.out];exact HI7.out.m.frozen i j hiN
     have hbil:bi<W6.drew.heap.size:=hbil;clear HI6 h50;generalize W6.drew=W7 at*
     go_wp2_with fail;have HI8:=hid (HI7.out.put hiN hjN x.m (mv+x.m) (by rw[HMV.out]));rw[HBS.out]at HI8;go_roundg (gk-1);case measure=>have:=HM0.out;omega
     case rel=>
      refine⟨_,s2,HI8,addM_le HMB.out (by have:=HXM.out;omega) (by rw[HMV.out];have:=H50.out;omega),HLT.out.1,fun _=>by have:=HLTS.out;have:=HM0.out;omega,?_⟩;show _=_;rw[← HZ2.out];exact tabG_fuel _ _ _ _ _ _ _ HLT.out.1 (Nat.le_refl _) (by have:=HLTS.out;omega)
def rowToQ (M:Int→Int→Int)(a:Nat)(b:Nat):List E:=(List.range b).flatMap fun(b:Nat)=>if M (a:Int) (b:Int)=0 then[]else[⟨(a:Int),(b:Int),M (a:Int) (b:Int)⟩]
def esTo (M:Int→Int→Int)(n a b:Nat):List E:=((List.range a).flatMap fun a=>rowOfM M a n)++rowToQ M a b
theorem rowTo_succ (M:Int→Int→Int)(a b:Nat):rowToQ M a (b+1)=rowToQ M a b++(if M a b=0 then[]else[⟨a,b,M a b⟩]):=by
 unfold rowToQ;rw[List.range_succ,List.flatMap_append];simp
theorem esTo_succ (M:Int→Int→Int)(n a b:Nat):esTo M n a (b+1)=esTo M n a b++(if M a b=0 then[]else[⟨a,b,M a b⟩]):=by
 unfold esTo;rw[rowTo_succ,List.append_assoc]
theorem esTo_row (M:Int→Int→Int)(n a:Nat):esTo M n a n=esTo M n (a+1) 0:=by
 unfold esTo;rw[List.range_succ,List.flatMap_append];show _=(_++_)++rowToQ M (a+1) 0;have e1:rowToQ M (a+1) 0=[]:=rfl;rw[e1,List.append_nil];simp only[List.flatMap_cons,List.flatMap_nil,List.append_nil];rfl
theorem esTo_all (M:Int→Int→Int)(n:Nat):esTo M n n 0=esOfM M n:=by
 unfold esTo esOfM;have e1:rowToQ M n 0=[]:=rfl;rw[e1,List.append_nil]
theorem rowTo_none (M:Int→Int→Int)(a:Nat):∀b,(∀ y:Nat,y<b→M a y=0)→rowToQ M a b=[]
 |0,_=>rfl
 |b+1,h=>by rw[rowTo_succ,rowTo_none M a b (fun y hy=>h y (by omega)),if_pos (h b (by omega))];rfl
theorem esTo_diag (M:Int→Int→Int)(n a:Nat)(h:∀x y:Int,y<x→M x y=0):esTo M n a 0=esTo M n a a:=by
 unfold esTo;rw[rowTo_none M a a (fun y hy=>h a y (by omega))];rfl
theorem rowOfM_len (M:Int→Int→Int)(a:Nat):∀n,(rowToQ M a n).length≤n
 |0=>Nat.le_refl _
 |n+1=>by
  have:=rowOfM_len M a n;rw[rowTo_succ,List.length_append];split<;>simp<;>omega
theorem esTo_len (M:Int→Int→Int)(n:Nat):∀a b,(esTo M n a b).length≤a*n+b
 |0,b=>by
  have:=rowOfM_len M 0 b;unfold esTo;simpa using this
 |a+1,b=>by
  have h1:=esTo_len M n a n;rw[esTo_row]at h1;have h2:=rowOfM_len M (a+1) b;have e:esTo M n (a+1) b=esTo M n (a+1) 0++rowToQ M (a+1) b:=by
   unfold esTo;have e1:rowToQ M (a+1) 0=[]:=rfl;rw[e1,List.append_nil]
  rw[e,List.length_append,Nat.add_mul];omega
structure JnI (w0 w:World)(R G:Nat)(T:TypeId)(n:Int)(eT:TypeId)(v:Value)(es:List E):Prop where
 br:Blk w R #[.int .i64 0,.slice none 0 0] T
 hR:R<G
 bg:Blk w G #[.int .i64 n,v] T
 own:w.ownsRow (G+1) eT 3 v es.length (es.flatMap E.cells)
 hB:Below w0.heap.size w0 w
 h0:w0.heap.size≤G
section
variable {w0 w w' : World} {R G : Nat} {T eT : TypeId} {n : Int} {v v' : Value} {es es' : List E}
theorem JnI.below (h:JnI w0 w R G T n eT v es)(hB:Below w.heap.size w w'):JnI w0 w' R G T n eT v es:=⟨h.br.below hB,h.hR,h.bg.below hB,owns_below h.own hB,up h.hB hB,h.h0⟩
theorem JnI.push (h:JnI w0 w R G T n eT v es)(ho:w'.ownsRow (G+1) eT 3 v' es'.length (es'.flatMap E.cells))(hg:w.grownBy w' v.ownBlock):JnI w0 (w'.setCell ⟨G,1,none⟩ v') R G T n eT v' es':=by
 have hlt:∀k,v.ownBlock=some k→G+1≤k:=fun k hk=>(h.own.lt k hk).1;have hb:=h.bg.grown hg (fun e=>by have:=hlt _ e;omega);have hb2:=hb.set 1 v';have hr:=(h.br.grown hg (fun e=>by have:=hlt _ e;have:=h.hR;omega)).other (show R≠G from by have:=h.hR;omega) 1 v';refine⟨hr,h.hR,by simpa using hb2,kept_row ho (grown_set _ _ _ _) (fun k hk e=>by have:=(ho.lt k hk).1;simp at e;omega),?_,h.h0⟩;exact(h.hB.grown hg h.hB.size (fun q hq=>by have:=hlt q hq;have:=h.h0;omega)).setCell h.h0 _
end
theorem q_Joined (n:Int)(N:Nat)(hN1:(N:Int)≤n)(hN2:n≤(N:Int))(hn:n≤12)(M:Int→Int→Int)(hM0:∀x y,0≤M x y∧M x y≤50)(hMd:∀x y:Int,y<x→M x y=0)(v:Value)(bs:Nat→Nat)(base:Nat)(w:World)(hM:OwnM 29 3 w base v N N bs (natM M))(hpos:0<N):
 Calls Tryz.prog 182 #[.int .i64 n,v] w fun e w'=>∃ev,e= .returned (.agg #[.int .i64 n,ev])∧w'.ownsRow w.heap.size 150 3 ev (esOfM M N).length ((esOfM M N).flatMap E.cells)∧Below w.heap.size w w':=by
 obtain⟨i0,hi0,hz0,hz1,hz2⟩:=info_parts info_edge;have HNN:=hid (And.intro hN1 (And.intro hN2 hn));have HM0:=hid hM0;have HMD:=hid hMd;obtain⟨go,co,rfl,_,_⟩:=owns_some hM.outer hpos;have HM:=hid hM;have hB0:Below w.heap.size w ((w.alloc (.cells #[.int .i64 0,.slice none 0 0] 28)).alloc (.cells #[.int .i64 n,.slice none 0 0] 28)):=((Below.refl w.heap.size w).alloc (Nat.le_refl _) _).alloc (by simp) _;have HR0:=hid ((Blk.new w #[.int .i64 0,.slice none 0 0] 28).alloc (.cells #[.int .i64 n,.slice none 0 0] 28));have HG0:=Blk.new (w.alloc (.cells #[.int .i64 0,.slice none 0 0] 28)) #[.int .i64 n,.slice none 0 0] 28
 rw[World.size_alloc]at HG0
 have HJ0:Hid (JnI w ((w.alloc (.cells #[.int .i64 0,.slice none 0 0] 28)).alloc (.cells #[.int .i64 n,.slice none 0 0] 28)) w.heap.size (w.heap.size+1) 28 n 150 (.slice none 0 0) (esTo M N 0 0)):=
  ⟨HR0.out,by omega,HG0,World.ownsRow_nil _ _ _ _,hB0,by omega⟩
 clear hM hB0 HG0 hM0 hMd;go_enter Tryz.func182,Tryz.ntmps182;go_upto_region 2 with fail;generalize (w.alloc (.cells #[.int .i64 0,.slice none 0 0] 28)).alloc (.cells #[.int .i64 n,.slice none 0 0] 28)=W0 at*
 have HWT:Hid (∀ W',Below w.heap.size w W'→∀a b:Nat,a<N→b<N→W'.cell? ⟨go,a,none⟩=some (.slice (some ⟨bs a,0,none⟩) N N)∧W'.cell? ⟨bs a,b,none⟩=some (.int .i64 (M a b))∧go<W'.heap.size∧bs a<W'.heap.size∧go<w.heap.size∧bs a<w.heap.size):=fun W' hB a b ha hb=>by
  have h:=HM.out.below hB;exact⟨h.at a ha,h.cell a b ha hb,(h.outer.lt go rfl).2,(h.lt a ha).2,(HM.out.outer.lt go rfl).2,(HM.out.lt a ha).2⟩
 clear HM;go_wp2_with fail;go_loopw [6] (fun i wr=>∃(a:Nat) (ev:Value),a≤N∧i= .int .i64 a∧Hid (JnI w wr w.heap.size (w.heap.size+1) 28 n 150 ev (esTo M N a 0))) (fun i _=>N-(intOf i).toNat);case atStart=>exact⟨0,_,Nat.zero_le _,rfl,HJ0⟩
 case round=>
  clear HJ0;obtain⟨a,ev,haN,rfl,HJ⟩:=hrel;obtain⟨W1,rfl⟩:∃W:World,W=wr:=⟨_,rfl⟩;have hNN:=HNN.out;by_cases haT:a<N
  ·have ha1:(a:Int)<n:=by omega
   rw[esTo_diag M N a HMD.out]at HJ;go_wp2_with fail;go_loopw [7] (fun i wr=>∃(b:Nat) (ev:Value),b≤N∧i= .int .i64 b∧Hid (JnI w wr w.heap.size (w.heap.size+1) 28 n 150 ev (esTo M N a b))) (fun i _=>N-(intOf i).toNat);case atStart=>exact⟨a,ev,haN,rfl,HJ⟩
   case round=>
    clear HJ;obtain⟨b,ev,hbN,rfl,HJ⟩:=hrel;obtain⟨W2,rfl⟩:∃W:World,W=wr:=⟨_,rfl⟩;by_cases hbT:b<N
    ·have hb1:(b:Int)<n:=by omega
     have k1:(0:Int)≤(a:Int):=by omega
     have k2:(0:Int)≤(b:Int):=by omega
     have k3:(a:Int)<(N:Int):=by omega
     have k4:(b:Int)<(N:Int):=by omega
     obtain⟨g0,g1,hgl,hbl,hgw,hbw⟩:=HWT.out W2 HJ.out.hB a b haT hbT;have hs2:=esTo_succ M N a b;have hm0:=HM0.out a b;have hlen:=esTo_len M N a b;have hlen2:a*N+b≤1000:=by
      have:a*N≤12*12:=Nat.mul_le_mul (by omega) (by omega);omega
     have HS2:=hid hs2;generalize hmv:M (a:Int) (b:Int)=mv at*
     generalize hes:esTo M N a b=es at*
     generalize hbs:bs a=bi at*
     have HMV:=hid hmv;have HBS:=hid hbs;have HES:=hid hes;clear hs2 hmv hes hbs;by_cases hp:0<mv
     ·go_upto_region 9 with fail
      have q1:W2.cell? ⟨w.heap.size+1,1,none⟩=some ev:=(HJ.out.bg.cell 1).trans rfl;have hgl1:=HJ.out.bg.lt;have HQ1:=hid q1;have HG:=hid (And.intro g0 g1);obtain⟨ea,ecap,rfl,_⟩:=owns_at HJ.out.own;let S:World→Prop:=fun W'=>W'.cell? ⟨w.heap.size+1,1,none⟩=some (.slice ea es.length ecap)∧W'.cell? ⟨go,a,none⟩=some (.slice (some ⟨bi,0,none⟩) N N)∧W'.cell? ⟨bi,b,none⟩=some (.int .i64 mv)
      (refine wp_region_text 15 [0,1,2,3,4,5,6,7,8,9,10,11,12,13,14] S (by kernel_rfl) (by kernel_rfl) (by intro _ _ d _ _ h;cases d<;>exact h) ?hS ?_;rotate_left;simp only[xA,xB,xC,xD,xE,xF]);case hS=>exact⟨q1,g0,g1⟩
      (repeat ((refine' wpSeq_take rfl _ (by rfl) ?_ ?_;rotate_left;focus(intro w' hS;(try dsimp only at hS);obtain⟨s1,s2,s3⟩:=hS;go_simp;(first|done|with_reducible rfl));(try go_frame));(try go_frame)));refine wpSeq_call rfl (by rfl) (fun K hK=> ?_);go_simp;refine hK _ _ (show (W2.drew.alloc _).cell? _=_∧(W2.drew.alloc _).cell? _=_∧(W2.drew.alloc _).cell? _=_ from⟨(World.cell?_alloc_old _ _ _ (by simp;omega)).trans HQ1.out,(World.cell?_alloc_old _ _ _ (by simp;omega)).trans HG.out.1,(World.cell?_alloc_old _ _ _ (by simp;omega)).trans HG.out.2⟩) ?_;clear hK K;(try go_frame);(repeat ((refine' wpSeq_take rfl _ (by rfl) ?_ ?_;rotate_left;focus(intro w' hS;(try dsimp only at hS);obtain⟨s1,s2,s3⟩:=hS;go_simp;(first|done|with_reducible rfl));(try go_frame));(try go_frame)))
      refine wpSeq_call rfl (by rfl) (fun K hK=> ?_);refine wp_append_own _ _ _ 26 rfl (w.heap.size+1+1) 150 i0 (.agg #[.int .i64 0,.int .i64 0,.int .i64 0]) 3 24 und_edges hi0 hz0 hz1 hz2 rfl (by decide) (.slice ea es.length ecap) es.length (es.flatMap E.cells) rfl (ownsRow_ad HJ.out.own _) ⟨W2.heap.size,0,none⟩ 1 1 [.int .i64 a,.int .i64 b,.int .i64 mv] rfl rfl (fun j u h=>trip_news W2 _ _ _ _ j u h) (by simp[Value.oneCell']) (by unfold maxLen;omega) (by omega) (by simp;omega) ?_;intro v' w9 ho9 hg9 _;obtain⟨va,vc,rfl,_⟩:=owns_at ho9;have hgT:W2.grownBy w9 (Value.slice ea es.length ecap).ownBlock:=(grown_ad W2 _ _).trans hg9
      have hnb:∀k,(Value.slice ea es.length ecap).ownBlock=some k→w.heap.size+1+1≤k:=fun k hk=>(HJ.out.own.lt k hk).1;have HBG:=hid (HJ.out.bg.grown hgT (fun e=>by have:=hnb _ e;omega))
      have HG9:Hid (w9.cell? ⟨go,a,none⟩=some (.slice (some ⟨bi,0,none⟩) N N)∧w9.cell? ⟨bi,b,none⟩=some (.int .i64 mv)):=
       ⟨(World.cell?_of_block (hgT.block go hgl (fun e=>by have:=hnb _ e.symm;omega))).trans HG.out.1,(World.cell?_of_block (hgT.block bi hbl (fun e=>by have:=hnb _ e.symm;omega))).trans HG.out.2⟩
      have q9:w9.cell? ⟨w.heap.size+1,1,none⟩=some (.slice ea es.length ecap):=(HBG.out.cell 1).trans rfl;have HQ9:=hid q9;have HJ9:=hid (HJ.out.push (es':=es++[⟨a,b,mv⟩]) (w':=w9) (by rw[List.flatMap_append,List.length_append];exact ho9) hgT);have f9:=HBG.out.frozen 1;have l9:=HBG.out.lt;refine hK _ _ ⟨HQ9.out,HG9.out.1,HG9.out.2⟩ ?_;clear hK K;(try go_frame);(repeat ((refine' wpSeq_take rfl _ (by rfl) ?_ ?_;rotate_left;focus(intro w' hS;(try dsimp only at hS);obtain⟨s1,s2,s3⟩:=hS;go_simp;(first|done|with_reducible rfl));(try go_frame));(try go_frame)));refine wpSeq_nil ?_;clear S hgT hnb ho9 hg9 q1 hgl1 g0 g1 hgl hbl
      go_wp2_with fail;go_roundw
      case rel=>
       refine⟨b+1,.slice va (es.length+1) vc,by omega,by go_num,?_⟩;show JnI _ _ _ _ _ _ _ _ _;rw[HS2.out,if_neg (by omega)];exact HJ9.out
      case measure=>simp[intOf];omega
     ·have hp2:mv=0:=by omega
      go_wp2_with fail;go_roundw
      case rel=>
       refine⟨b+1,ev,by omega,by go_num,?_⟩;show JnI _ _ _ _ _ _ _ _ _;rw[HS2.out,if_pos hp2,List.append_nil];exact HJ.out
      case measure=>simp[intOf];omega
    ·obtain rfl:b=N:=by omega
     have hb1:¬((b:Nat):Int)<n:=by omega
     rw[esTo_row]at HJ;go_wp2_with fail;go_roundw;case rel=>exact⟨a+1,ev,by omega,by go_num,HJ⟩
     case measure=>simp[intOf];omega
  ·obtain rfl:a=N:=by omega
   have ha1:¬((a:Nat):Int)<n:=by omega
   rw[esTo_all]at HJ;go_upto_region 10 with fail;obtain⟨ea,ecap,rfl,_⟩:=owns_at HJ.out.own;have g0:W1.cell? ⟨w.heap.size+1,0,none⟩=some (.int .i64 n):=(HJ.out.bg.cell 0).trans rfl;have g1:W1.cell? ⟨w.heap.size+1,1,none⟩=some (.slice ea (esOfM M a).length ecap):=(HJ.out.bg.cell 1).trans rfl;have gl:=HJ.out.bg.lt;have r0:W1.cell? ⟨w.heap.size,0,none⟩=some (.int .i64 0):=(HJ.out.br.cell 0).trans rfl;have r1:W1.cell? ⟨w.heap.size,1,none⟩=some (.slice none 0 0):=(HJ.out.br.cell 1).trans rfl;have f0:=HJ.out.br.frozen 0;have f1:=HJ.out.br.frozen 1;have rl:=HJ.out.br.lt;go_wp2_with fail;have HR5:=hid ((HJ.out.br.set 0 (.int .i64 n)).set 1 (.slice ea (esOfM M a).length ecap))
   refine bodyPost_ret (results_cell1' rfl rfl (load_gr rfl HR5.out)) rfl ⟨_,rfl,?_,?_⟩
   ·exact owns_base (kept_row (kept_row HJ.out.own (grown_set _ _ _ _) (hnk _ HJ.out.own (by omega))) (grown_set _ _ _ _) (hnk _ HJ.out.own (by omega))) (by omega)
   ·exact(HJ.out.hB.setCell (Nat.le_refl _) _).setCell (Nat.le_refl _) _
theorem addM_up {M:Int→Int→Int}(h:∀x y:Int,y<x→M x y=0){a b m:Int}(hab:a≤b):∀x y:Int,y<x→addM M a b m x y=0:=fun x y hxy=>by
 unfold addM;rw[if_neg (by omega)];exact h x y hxy
theorem tabG_up (sign:UInt8)(n:Int):∀f (M:Int→Int→Int) (s:Rs),(∀ x y:Int,y<x→M x y=0)→∀x y:Int,y<x→(tabG sign true n f M s).1 x y=0
 |0,M,s,h=>h
 |f+1,M,s,h=>by
  cases hm:s.more with
  |false=>rw[tabG_end _ _ _ _ _ _ hm];exact h
  |true=>
   rw[tabG_step _ _ _ f _ _ hm (s.line sign n).1 (s.line sign n).2 rfl]
   split
   ·exact h
   ·split
    ·exact h
    ·exact tabG_up sign n f _ _ (addM_up h (by unfold lo hi;simp;omega))
theorem head_ts {s:Rs}(h:TsOk s.ts)(word:List UInt8):TsOk (s.head word).2.ts:=by
 unfold Rs.head;exact(need_ts (num_ts (need_ts h word).1 1 12).1 [58]).1
def refP (word:List UInt8)(sign:UInt8)(either:Bool)(s:Rs):G×Int×Int:=
 let h:=s.head word
 if h.2.e≠0 then(⟨0,[]⟩,h.2.pl,h.2.e)
 else
  let t:=tabG sign either h.1 h.2.ts.length (fun _ _=>0) h.2
  if t.2.e≠0 then(⟨0,[]⟩,t.2.pl,t.2.e)else(⟨h.1,esOfM t.1 h.1.toNat⟩,0,0)
theorem refP_eq (word:List UInt8)(sign:UInt8)(either:Bool)(s:Rs)(hs:TsOk s.ts):refP word sign either s=tableP word sign either s:=by
 have ht:=head_ts hs word;unfold refP tableP;dsimp only;generalize s.head word=h at*
 obtain⟨n,s1⟩:=h;dsimp only at ht⊢;by_cases he:s1.e≠0
 ·rw[if_pos he,tabL_end _ _ _ _ _ _ (not_more he)]
  rw[if_pos he]
 ·rw[if_neg he]
  obtain⟨q1,q2⟩:=tab_eq sign either n s1.ts.length [] (fun _ _=>0) s1 ht (RelM.nil n);rw[q1];by_cases h2:(tabL sign either n s1.ts.length [] s1).2.e≠0
  ·rw[if_pos h2,if_pos h2]
  ·rw[if_neg h2,if_neg h2,←(q2 (by omega)).eq]
theorem q_ReadGraphF (text:List UInt8)(w:World):
 Calls Tryz.prog 118 #[.string (str text)] w (RetRdF w (tableP wGraph 45 true (opened (scanR text)))):=by
 rw[← refP_eq _ _ _ _ (opened_ok text)];obtain⟨Z,hZ⟩:∃Z,Z=refP wGraph 45 true (opened (scanR text)):=⟨_,rfl⟩;rw[← hZ];have HZ:=hid hZ;have hop:=hid (q_open text);have hok:=hid (opened_ok text);unfold refP at HZ;dsimp only at HZ;generalize opened (scanR text)=s at*
 clear hZ;have HTS:=hid (head_ts hok.out wGraph);go_enter Tryz.func118,Tryz.ntmps118;go_wp2_with fail;obtain⟨W0,hW0⟩:∃W:World,W=w.alloc (.cells #[.int .i64 0,.slice none 0 0] 28):=⟨_,rfl⟩;rw[← hW0];have HR:=hid (show Blk W0 w.heap.size #[.int .i64 0,.slice none 0 0] 28 by rw[hW0];exact Blk.new _ _ _);have HB0:=hid (show Below w.heap.size w W0 by rw[hW0];exact(Below.refl _ _).alloc (Nat.le_refl _) _);clear hW0;refine(hop.out W0).mono ?_;rintro e w1 ⟨lv,rfl,ht,hB⟩;obtain⟨tb,htb1,htb2,hRk⟩:=Rk.new hok.out ht;obtain⟨la,lcap,rfl,_⟩:=ht;have hst:=(Below.refl w1.heap.size w1).alloc (Nat.le_refl _) (.cells #[.slice la s.ts.length lcap,.int .i64 0,.int .i64 s.e,.int .i64 s.pl] 242)
 have HK1:=hid hRk;have HB1:=hid (up (up HB0.out hB) hst);have HR1:=hid ((HR.out.below hB).below hst);have HWB:Hid (w.heap.size<w1.heap.size):=by have:=HR.out.lt;have:=hB.size;show _<_;omega
 clear hRk hop hB htb1 htb2 HB0 HR;dsimp only;go_upto_region 2 with fail;clear hst;generalize w1.alloc (.cells #[.slice la s.ts.length lcap,.int .i64 0,.int .i64 s.e,.int .i64 s.pl] 242)=W1 at*
 generalize w1.heap.size=b at*
 go_wp2_with fail;refine(q_head W1 b tb s.ts s HK1.out wGraph).mono ?_;rintro e w2 ⟨rfl,hK2,hg2⟩;have HK2:=hid hK2;have HB2:Hid (Below w.heap.size w w2):=HB1.out.grown hg2 HB1.out.size (fun q hq=>by have:=HWB.out;simp at hq;omega);have HR2:=hid (HR1.out.grown hg2 (fun e=>by have:=HWB.out;simp at e;omega));have hhk:(s.head wGraph).2.e=0→1≤(s.head wGraph).1∧(s.head wGraph).1≤12:=fun e=>head_ok e;have HHK:=hid hhk;clear hK2 hg2 HK1 HB1 HR1 hhk;generalize s.head wGraph=h at*
 obtain⟨n,s1⟩:=h;have HK2:Hid (Rk w2 b tb s.ts s1):=HK2;have HTS:Hid (TsOk s1.ts):=HTS;have HHK:Hid (s1.e=0→1≤n∧n≤12):=HHK;have HZ:Hid (Z=if s1.e≠0 then(⟨0,[]⟩,s1.pl,s1.e)else if (tabG 45 true n s1.ts.length (fun _ _=>0) s1).2.e≠0 then(⟨0,[]⟩,(tabG 45 true n s1.ts.length (fun _ _=>0) s1).2.pl,(tabG 45 true n s1.ts.length (fun _ _=>0) s1).2.e)else(⟨n,esOfM (tabG 45 true n s1.ts.length (fun _ _=>0) s1).1 n.toNat⟩,0,0)):=HZ;obtain⟨_,_,_,_,_,_,_,_,_,_,_,_,d2,d3,_⟩:=HK2.out.cells;have hbl:=HK2.out.lt;dsimp only;by_cases he:s1.e=0
 ·rw[he]at d2
  have hz:=HZ.out;rw[if_neg (by rw[he];simp)]at hz;have HZ:=hid hz;obtain⟨hn1,hn2⟩:=HHK.out he;have HNN:=hid (And.intro hn1 hn2);have hNt:((n.toNat:Nat):Int)=n:=by omega
  obtain⟨N,hN⟩:∃N,n.toNat=N:=⟨_,rfl⟩;rw[hN]at HZ hNt;have HNT:=hid hNt;have HTQ:=hid (q_table n N (by omega) (by omega) hn1 hn2 45 true s.ts s1 b tb w2 HK2.out);have HUP:=hid (tabG_up 45 n s1.ts.length (fun _ _=>0) s1 (fun _ _ _=>rfl));have HRL:=hid (tab_eq 45 true n s1.ts.length [] (fun _ _=>0) s1 HTS.out (RelM.nil n));clear hz he HHK d3 hn1 hn2 hNt hN;generalize tabG 45 true n s1.ts.length (fun _ _=>0) s1=t at*
  obtain⟨M,s2⟩:=t;have HUP:Hid (∀ x y:Int,y<x→M x y=0):=HUP;have HRM:Hid (s2.e=0→∀x y,0≤M x y∧M x y≤50):=fun h=>((HRL.out.2 (by rw[← HRL.out.1];exact h)).le);have HZ:Hid (Z=if s2.e≠0 then(⟨0,[]⟩,s2.pl,s2.e)else(⟨n,esOfM M N⟩,0,0)):=HZ;clear HRL;go_wp2_with fail;refine HTQ.out.mono ?_;rintro e w3 ⟨tv,bs,rfl,hM,hK3,hg3⟩;have HM:=hid hM;have HK3:Hid (Rk w3 b tb s.ts s2):=hK3;have HB3:Hid (Below w.heap.size w w3):=HB2.out.grown hg3 HB2.out.size (fun q hq=>by have:=HWB.out;simp at hq;omega);have HR3:=hid (HR2.out.grown hg3 (fun e=>by have:=HWB.out;simp at e;omega));obtain⟨_,_,_,_,_,_,_,_,_,_,_,_,d2,d3,_⟩:=HK3.out.cells
  have hbl:=HK3.out.lt;clear hM hK3 hg3 HTQ HK2 HB2 HR2;dsimp only;by_cases he2:s2.e=0
  ·rw[he2]at d2
   have HZ2:Hid (Z=(⟨n,esOfM M N⟩,0,0)):=by have h:=HZ.out;rw[if_neg (by rw[he2];simp)]at h;exact h
   have HJ:=hid (q_Joined n N (by have:=HNT.out;omega) (by have:=HNT.out;omega) (by have:=HNN.out;omega) M (HRM.out he2) HUP.out tv bs _ w3 (HM.out.congr (natM M) (fun _ _ _ _=>rfl)) (by have:=HNT.out;have:=HNN.out;omega));have hlen:=esTo_len M N N 0;rw[esTo_all]at hlen;have hl2:N*N+0≤144:=by have h1:N≤12:=(by have:=HNT.out;have:=HNN.out;omega);have:=Nat.mul_le_mul h1 h1;omega
   have HLE:Hid ((esOfM M N).length≤144):=by show _≤_;omega
   clear HZ he2 hlen hl2 d3;go_wp2_with fail;refine HJ.out.mono ?_;rintro e w4 ⟨ev,rfl,hev,hB4⟩;have HEV:=hid hev;have HB4:=hid (up HB3.out hB4);have HR4:=hid (HR3.out.below hB4);have HW34:=hid HR3.out.lt;obtain⟨ea,ecap,rfl,_⟩:=owns_at hev;clear hev hB4 HB3 HR3 d2 hbl;have r0:=HR4.out.cell 0;have r1:=HR4.out.cell 1;simp only[xG,xH,xI]at r0 r1;have f0:=HR4.out.frozen 0;have f1:=HR4.out.frozen 1;have rl:=HR4.out.lt;dsimp only;go_wp2_with fail;have HR5:=hid ((HR4.out.set 0 (.int .i64 n)).set 1 (.slice ea (esOfM M N).length ecap));rw[HZ2.out];refine bodyPost_ret (results_cell3 rfl rfl (load_gr rfl HR5.out)) rfl ⟨_,rfl,⟨_,rfl,?_⟩,(fun n' ev' g hg he=>by cases hg;have:=(HEV.out.lt g he).1;have:=HW34.out;omega),?_⟩
   ·exact owns_edges (kept_row (kept_row HEV.out (grown_set _ _ _ _) (hnk _ HEV.out HW34.out)) (grown_set _ _ _ _) (hnk _ HEV.out HW34.out)) (show (esOfM M N).length*24≤140737488355328 by have:=HLE.out;omega)
   ·exact(HB4.out.setCell (Nat.le_refl _) _).setCell (Nat.le_refl _) _
  ·skip
   have HZ2:Hid (Z=(⟨0,[]⟩,s2.pl,s2.e)):=by have h:=HZ.out;rw[if_pos he2]at h;exact h
   have he1:(s2.e !=0)=true:=by simpa using he2
   have HC:=hid (And.intro d2 d3);clear HZ he2;go_upto_region 7 with fail;clear d2 d3;have r0:=HR3.out.cell 0;have r1:=HR3.out.cell 1;simp only[xG,xH,xI]at r0 r1;have hne:b≠w.heap.size:=by have:=HWB.out;omega
   let S:World→Prop:=fun W'=>W'.cell? ⟨b,2,none⟩=some (.int .i64 s2.e)∧W'.cell? ⟨b,3,none⟩=some (.int .i64 s2.pl)
   (refine wp_region_text 7 [0,1,2,3,4,5,6] S (by kernel_rfl) (by kernel_rfl) (by intro _ _ d _ _ h;cases d<;>exact h) ?hS ?_;rotate_left;simp only[xA,xB,xC,xD,xE,xF]);case hS=>exact HC.out
   (repeat ((refine' wpSeq_take rfl _ (by rfl) ?_ ?_;rotate_left;focus(intro w' hS;(try dsimp only at hS);obtain⟨s1,s2⟩:=hS;go_simp;(first|done|with_reducible rfl));(try go_frame));(try go_frame)));refine wpSeq_call rfl (by rfl) (fun K hK=> ?_);have r0':(w3.drew).cell? ⟨w.heap.size,0,none⟩=some (.int .i64 0):=r0;have r1':(w3.drew).cell? ⟨w.heap.size,1,none⟩=some (.slice none 0 0):=r1;have f0:(w3.drew).frozen? ⟨w.heap.size,0,none⟩=false:=HR3.out.frozen 0;have f1:(w3.drew).frozen? ⟨w.heap.size,1,none⟩=false:=HR3.out.frozen 1;have rl:w.heap.size<(w3.drew).heap.size:=HR3.out.lt;have g0:=HR3.out.frozen 0
   have g1:=HR3.out.frozen 1;have hS3:S (((w3.setCell ⟨w.heap.size,0,none⟩ (.int .i64 0)).setCell ⟨w.heap.size,1,none⟩ (.slice none 0 0)).drew):=by
    constructor
    ·show World.cell? (World.setCell (World.setCell _ _ _) _ _) _=_
     rw[World.cell?_setCell_far _ _ _ _ (fun e=>hne e.symm),World.cell?_setCell_far _ _ _ _ (fun e=>hne e.symm)];exact HC.out.1
    ·show World.cell? (World.setCell (World.setCell _ _ _) _ _) _=_
     rw[World.cell?_setCell_far _ _ _ _ (fun e=>hne e.symm),World.cell?_setCell_far _ _ _ _ (fun e=>hne e.symm)];exact HC.out.2
   go_simp;refine hK _ _ hS3 ?_;clear hK K;(try go_frame);(repeat ((refine' wpSeq_take rfl _ (by rfl) ?_ ?_;rotate_left;focus(intro w' hS;(try dsimp only at hS);obtain⟨s1,s2⟩:=hS;go_simp;(first|done|with_reducible rfl));(try go_frame));(try go_frame)));refine wpSeq_nil ?_;have HR9:=hid ((HR3.out.set 0 (.int .i64 0)).set 1 (.slice none 0 0));clear hS3 S r0 r1 r0' r1' f0 f1 g0 g1;go_wp2_with fail;rw[HZ2.out];refine bodyPost_ret (results_cell3 rfl rfl (load_gr rfl (Blk.drew HR9.out))) rfl ⟨_,rfl,gr_zero _,(fun n' ev' g hg he=>by cases hg;cases he),?_⟩;exact(((HB3.out.setCell (Nat.le_refl _) _).setCell (Nat.le_refl _) _).drew)
 ·skip
  have HZ2:Hid (Z=(⟨0,[]⟩,s1.pl,s1.e)):=by have h:=HZ.out;rw[if_pos he]at h;exact h
  have he1:(s1.e !=0)=true:=by simpa using he
  have HC:=hid (And.intro d2 d3);clear HZ he;go_upto_region 4 with fail;clear d2 d3;have r0:=HR2.out.cell 0;have r1:=HR2.out.cell 1;simp only[xG,xH,xI]at r0 r1;have hne:b≠w.heap.size:=by have:=HWB.out;omega
  let S:World→Prop:=fun W'=>W'.cell? ⟨b,2,none⟩=some (.int .i64 s1.e)∧W'.cell? ⟨b,3,none⟩=some (.int .i64 s1.pl)
  (refine wp_region_text 7 [0,1,2,3,4,5,6] S (by kernel_rfl) (by kernel_rfl) (by intro _ _ d _ _ h;cases d<;>exact h) ?hS ?_;rotate_left;simp only[xA,xB,xC,xD,xE,xF]);case hS=>exact HC.out
  (repeat ((refine' wpSeq_take rfl _ (by rfl) ?_ ?_;rotate_left;focus(intro w' hS;(try dsimp only at hS);obtain⟨s1,s2⟩:=hS;go_simp;(first|done|with_reducible rfl));(try go_frame));(try go_frame)));refine wpSeq_call rfl (by rfl) (fun K hK=> ?_);have r0':(w2.drew).cell? ⟨w.heap.size,0,none⟩=some (.int .i64 0):=r0;have r1':(w2.drew).cell? ⟨w.heap.size,1,none⟩=some (.slice none 0 0):=r1;have f0:(w2.drew).frozen? ⟨w.heap.size,0,none⟩=false:=HR2.out.frozen 0;have f1:(w2.drew).frozen? ⟨w.heap.size,1,none⟩=false:=HR2.out.frozen 1;have rl:w.heap.size<(w2.drew).heap.size:=HR2.out.lt;have g0:=HR2.out.frozen 0
  have g1:=HR2.out.frozen 1;have hS3:S (((w2.setCell ⟨w.heap.size,0,none⟩ (.int .i64 0)).setCell ⟨w.heap.size,1,none⟩ (.slice none 0 0)).drew):=by
   constructor
   ·show World.cell? (World.setCell (World.setCell _ _ _) _ _) _=_
    rw[World.cell?_setCell_far _ _ _ _ (fun e=>hne e.symm),World.cell?_setCell_far _ _ _ _ (fun e=>hne e.symm)];exact HC.out.1
   ·show World.cell? (World.setCell (World.setCell _ _ _) _ _) _=_
    rw[World.cell?_setCell_far _ _ _ _ (fun e=>hne e.symm),World.cell?_setCell_far _ _ _ _ (fun e=>hne e.symm)];exact HC.out.2
  go_simp;refine hK _ _ hS3 ?_;clear hK K;(try go_frame);(repeat ((refine' wpSeq_take rfl _ (by rfl) ?_ ?_;rotate_left;focus(intro w' hS;(try dsimp only at hS);obtain⟨s1,s2⟩:=hS;go_simp;(first|done|with_reducible rfl));(try go_frame));(try go_frame)));refine wpSeq_nil ?_;have HR9:=hid ((HR2.out.set 0 (.int .i64 0)).set 1 (.slice none 0 0));clear hS3 S r0 r1 r0' r1' f0 f1 g0 g1;go_wp2_with fail;rw[HZ2.out];refine bodyPost_ret (results_cell3 rfl rfl (load_gr rfl (Blk.drew HR9.out))) rfl ⟨_,rfl,gr_zero _,(fun n' ev' g hg he=>by cases hg;cases he),?_⟩;exact(((HB2.out.setCell (Nat.le_refl _) _).setCell (Nat.le_refl _) _).drew)
theorem load_cmdQ {w:World}{b:Nat}{v0 v1 v2 v3 v4 v5 v6 v7:Value}(h:Blk w b #[v0,v1,v2,v3,v4,v5,v6,v7] 39):
 (loadVar 39 ⟨b,0,none⟩).run Tryz.prog w= .ok (.agg #[v0,v1,v2,v3,v4,v5,v6,v7]) w:=by
 have hlt:=h.lt;have c0:=h.cell 0;have c1:=h.cell 1;have c2:=h.cell 2;have c3:=h.cell 3;have c4:=h.cell 4;have c5:=h.cell 5;have c6:=h.cell 6;have c7:=h.cell 7;simp only[xG,xH,xI]at c0 c1 c2 c3 c4 c5 c6 c7;go_simp
theorem guess_finQ {w Wf:World}{R:Nat}{ev vv:Value}{c:Cmd}{T:TypeId}(HR:Blk Wf R #[.int .i64 0,.string ⟨#[]⟩,.string ⟨#[]⟩,.string ⟨#[]⟩,.int .i64 0,.int .i64 0,.slice none 0 0,.slice none 0 0] T)(hR:w.heap.size≤R)(hB:Below w.heap.size w Wf)(he:EdgesR Wf ev c.g.es)(hv:IntsR Wf vv c.vals)(hvf:∀g,ev.ownBlock=some g∨vv.ownBlock=some g→R<g):
 RetCmd c w (.returned (.agg #[.int .i64 c.kind,.string (str c.name),.string (str c.on),.string (str c.other),.int .i64 c.q,.int .i64 c.g.n,ev,vv])) ((((((((Wf.setCell ⟨R,0,none⟩ (.int .i64 c.kind)).setCell ⟨R,1,none⟩ (.string (str c.name))).setCell ⟨R,2,none⟩ (.string (str c.on))).setCell ⟨R,3,none⟩ (.string (str c.other))).setCell ⟨R,4,none⟩ (.int .i64 c.q)).setCell ⟨R,5,none⟩ (.int .i64 c.g.n)).setCell ⟨R,6,none⟩ ev).setCell ⟨R,7,none⟩ vv):=
 ⟨ev,vv,rfl,he.putC HR (subX8 ..),hv.putF (fun e=>by have:=hvf _ (.inr e);omega) (subX8 ..),fun g e=>by have:=hvf g e;omega,below8 hB hR _ _ _ _ _ _ _ _⟩
def kTo (x:List UInt8):Nat→Int
 |0=> -1
 |j+1=>if x=verbsW[j]?.getD []then(j:Int)else kTo x j
theorem kTo_nine (x:List UInt8):kTo x 9=kIx x:=by
 show(if x=wRedo then(8:Int)else if x=wUndo then 7 else if x=wDrop then 6 else if x=wAdd then 5 else if x=wRed then 4 else if x=wStab then 3 else if x=wFire then 2 else if x=wPut then 1 else if x=wLet then 0 else -1)=kIx x;by_cases h0:x=wLet
 ·subst h0;decide
 by_cases h1:x=wPut
 ·subst h1;decide
 by_cases h2:x=wFire
 ·subst h2;decide
 by_cases h3:x=wStab
 ·subst h3;decide
 by_cases h4:x=wRed
 ·subst h4;decide
 by_cases h5:x=wAdd
 ·subst h5;decide
 by_cases h6:x=wDrop
 ·subst h6;decide
 by_cases h7:x=wUndo
 ·subst h7;decide
 by_cases h8:x=wRedo
 ·subst h8;decide
 unfold kIx;simp[h0,h1,h2,h3,h4,h5,h6,h7,h8]
theorem kIx_ge (x:List UInt8): -1≤kIx x:=by
 unfold kIx;repeat(split;omega)
 omega
theorem str_xd (t:List UInt8)(j:Nat)(h:j≤t.length):(str t).extract j t.length=str (t.drop j):=by
 rw[str_extract];rw[← List.length_drop,List.take_length]
theorem str_eqF {a b:List UInt8}(h:a≠b):((str a).toList==(str b).toList)=false:=by rw[str_eqb];simpa using h
theorem str_eqT {a b:List UInt8}(h:a=b):((str a).toList==(str b).toList)=true:=by rw[str_eqb];simpa using h
theorem sts_owns {w:World}{B g n cap:Nat}{l:List (List UInt8)}(h:w.ownsRow B 9 1 (.slice (some ⟨g,0,none⟩) n cap) l.length (l.map fun p=>Value.string (str p)))(hl:l.length≤1000000):StsR w (.slice (some ⟨g,0,none⟩) n cap) l:=by
 obtain⟨av,cv,e,h1,h2,hca⟩:=owns_at h;injection e with e1 e2 e3
 subst e1 e2 e3;exact⟨_,_,rfl,by simpa using h1,by omega,hca⟩
end Go.Proofs.YtclgllmipcbagaaGreatDoor
