/-
  Parts of the proof: XN2 XN3 XN4 XN5 XN6
-/
import Derived.Test.YtclgllmipcbagaaGreatDoorBk07
import Derived.Test.YtclgllmipcbagaaGreatDoorBk08
import Derived.Test.YtclgllmipcbagaaGreatDoorBk02
namespace Go.Proofs.YtclgllmipcbagaaGreatDoor
open Go.RowKit
set_option linter.unusedVariables false
set_option linter.unusedSimpArgs false
set_option maxRecDepth 100000
set_option maxHeartbeats 16000000
def numFrom (a:Nat)(l:List UInt8):Nat:=l.foldl (fun n c=>10*n+(c.toNat-48)) a
theorem numFrom_ge:∀(l:List UInt8) (a:Nat),a≤numFrom a l
 |[],a=>Nat.le_refl _
 |c::l,a=>by
  have:=numFrom_ge l (10*a+(c.toNat-48));show a≤numFrom (10*a+(c.toNat-48)) l;omega
theorem digs {c:UInt8}(h:isDig c=true):48≤c.toNat∧c.toNat≤57:=by
 unfold isDig at h;simpa using h
theorem parse_dig:∀(l:List UInt8) (a:Nat),l.all isDig=true→a<18446744073709551616→
 Lib.parseUint10 a l=if numFrom a l<18446744073709551616 then .ok (numFrom a l)else .range
 |[],a,_,ha=>by
  show Lib.NumEnd.ok a=if a<_ then _ else _;rw[if_pos ha];rfl
 |c::l,a,hd,ha=>by
  simp only[List.all_cons,Bool.and_eq_true]at hd;have hc:=digs hd.1;have e:numFrom a (c::l)=numFrom (10*a+(c.toNat-48)) l:=rfl;have hg:=numFrom_ge l (10*a+(c.toNat-48));rw[e];unfold Lib.parseUint10;rw[if_pos hc];by_cases h1:1844674407370955162≤a
  ·rw[if_pos h1,if_neg (by omega)]
  ·rw[if_neg h1]
   by_cases h2:18446744073709551616≤a*10+(c.toNat-48)
   ·rw[if_pos h2,if_neg (by omega)]
   ·rw[if_neg h2,show a*10+(c.toNat-48)=10*a+(c.toNat-48) by omega]
    exact parse_dig l _ hd.2 (by omega)
theorem atoi_dig {l:List UInt8}(h0:l≠[])(hd:l.all isDig=true):Lib.atoiAll l=if numOf l<9223372036854775808 then .ok (numOf l)else .range:=by
 match l,h0 with
 |c::r,_=>
  have hc:=digs (by simp only[List.all_cons,Bool.and_eq_true]at hd;exact hd.1:isDig c=true)
  have hp:=parse_dig (c::r) 0 hd (by decide)
  have e:numFrom 0 (c::r)=numOf (c::r):=rfl
  unfold Lib.atoiAll
  dsimp only
  rw[if_neg (by omega)]
  unfold Lib.parseMag
  rw[if_neg (by simp),hp,e]
  generalize numOf (c::r)=v
  by_cases h1:v<18446744073709551616
  ·rw[if_pos h1]
   dsimp only;by_cases h2:v<9223372036854775808
   ·rw[if_neg (by omega),if_neg (by omega),if_pos h2,if_neg (by omega)]
   ·rw[if_pos ⟨by omega,by omega⟩,if_neg h2]
  ·rw[if_neg h1,if_neg (by omega)]
theorem numFrom_pow:∀(l:List UInt8) (a:Nat),a*10^l.length≤numFrom a l
 |[],a=>by show a*10^0≤a;omega
 |c::l,a=>by
  have h:=numFrom_pow l (10*a+(c.toNat-48));refine Nat.le_trans ?_ h;rw[List.length_cons,Nat.pow_succ,←Nat.mul_assoc,Nat.mul_right_comm];exact Nat.mul_le_mul_right _ (by omega)
theorem nat_long {l:List UInt8}(hn:natB l=true)(h:24<l.length):1099511627776<numOf l:=by
 obtain⟨d0,d1,d2⟩:=nat_digits hn;match l,d0 with
 |c::r,_=>
  have hc:=digs (by simp only[List.all_cons,Bool.and_eq_true]at d1;exact d1.1:isDig c=true)
  have hne:c≠48:=by
   rcases d2 with d2|d2
   ·simpa using d2
   ·omega
  have hc1:1≤c.toNat-48:=by
   have:c.toNat≠48:=fun e=>hne (by rw[← UInt8.toNat_inj];exact e);omega
  have e:numOf (c::r)=numFrom (10*0+(c.toNat-48)) r:=rfl
  have h1:=numFrom_pow r (10*0+(c.toNat-48))
  have h2:10^24≤10^r.length:=Nat.pow_le_pow_right (by decide) (by simp at h;omega)
  have h3:1*10^r.length≤(10*0+(c.toNat-48))*10^r.length:=Nat.mul_le_mul_right _ (by omega)
  rw[e]
  have h4:(1099511627776:Nat)<10^24:=by decide
  omega
structure Env (w:World):Prop where
 rng:∃ev,w.cell? ⟨3,0,none⟩=some ev∧(ev= .nilIface∨∃te pe,ev= .iface te pe)
 tab:Lib.TabIs Tryz.prog w "internal/strconv.uint64pow10" .u64 Lib.pow10Tab
theorem cell_lt {w:World}{a:Addr}{v:Value}(h:w.cell? a=some v):a.block<w.heap.size:=by
 rcases Nat.lt_or_ge a.block w.heap.size with h'|h'
 ·exact h'
 ·simp[World.cell?,Array.getElem?_eq_none h']at h
theorem pow_named:∃g,Tryz.prog.globalNamed "internal/strconv.uint64pow10" =some g:=⟨0,by kernel_rfl⟩
theorem Env.grown {w w':World}{b:Nat}(h:Env w)(hg:w.grownBy w' (some b))(hb:∀v,w.cell? ⟨3,0,none⟩=some v→b≠3)(hb2:∀g,Tryz.prog.globalNamed "internal/strconv.uint64pow10" =some g→b≠g):Env w':=by
 obtain⟨⟨ev,h1,h2⟩,h3⟩:=h;have hl:=cell_lt h1;refine⟨⟨ev,?_,h2⟩,?_⟩
 ·rw[World.cell?_of_block (hg.block _ hl (by have:=hb ev h1;simpa using this.symm))];exact h1
 ·unfold Lib.TabIs World.var? at h3⊢
  obtain⟨g,hgn⟩:=pow_named;rw[hgn]at h3⊢;simp only[Option.bind_some]at h3⊢;have hlt:g<w.heap.size:=by
   rcases Nat.lt_or_ge g w.heap.size with h'|h'
   ·exact h'
   ·rw[Array.getElem?_eq_none h']at h3;cases h3
  rw[hg.block g hlt (by have:=hb2 g hgn;simpa using this.symm)];exact h3
theorem Env.below {w w':World}(h:Env w)(hB:Below w.heap.size w w'):Env w':=by
 obtain⟨⟨ev,h1,h2⟩,h3⟩:=h;obtain⟨g,hgn⟩:=pow_named;refine⟨⟨ev,(hB.cell (cell_lt h1)).trans h1,h2⟩,?_⟩;unfold Lib.TabIs World.var? at h3⊢;rw[hgn]at h3⊢;simp only[Option.bind_some]at h3⊢;have hlt:g<w.heap.size:=by
  rcases Nat.lt_or_ge g w.heap.size with h'|h'
  ·exact h'
  ·rw[Array.getElem?_eq_none h']at h3;cases h3
 rw[hB.block g hlt];exact h3
theorem i_Small (l:List UInt8)(w:World)(hE:Env w)(hn:natB l=true)(hl:l.length≤24):
 Calls Tryz.prog 347 #[.string (str l)] w fun e w'=>(if numOf l<9223372036854775808 then e= .returned (.tuple #[.int .i64 (numOf l),.int .i64 0])else e= .returned (.tuple #[.int .i64 0,.int .i64 2]))∧Below w.heap.size w w':=by
 have hc:=hid (i_Check l w hn hl);obtain⟨d0,d1,_⟩:=nat_digits hn;have ha:=atoi_dig d0 d1;by_cases hv:numOf l<9223372036854775808
 ·rw[if_pos hv]at ha
  have hat:=hid (fun w=>(Any.strconv_Atoi_ok nlayC172 (str l) (by rw[str_size];omega) (numOf l) ha w));have HV:=hid hv;generalize numOf l=v at*
  clear hn hl ha d0 d1 hE hv;go_enter Tryz.func347,Tryz.ntmps347;go_wp2_with fail;refine hc.out.mono ?_;rintro e w1 ⟨rfl,hB1⟩;have HB1:=hid hB1;clear hB1;dsimp only;go_wp2_with fail;refine(hat.out _).mono ?_;rintro e w2 ⟨rfl,hw2⟩;have hB2:Hid (Below w1.heap.size w1 w2):=by
   rcases hw2 with rfl|⟨t,rfl⟩
   ·exact Below.refl _ _
   ·exact bytes_below _ _ _
  clear hw2;dsimp only;go_wp2_with fail;go_ret2;exact⟨by first|rfl|rw[if_pos HV.out],up HB1.out hB2.out⟩
 ·rw[if_neg hv]at ha
  obtain⟨ev,e1,e2⟩:=hE.rng;have e1l:=cell_lt e1;have hat:=hid (fun (w1:World) (hB:Below w.heap.size w w1)=>Any.strconv_Atoi_range nlayC172 (str l) (by rw[str_size];omega) ha ev w1 ((hB.cell e1l).trans e1) e2);have HV:=hid hv;clear hn hl ha d0 d1 hE hv e1 e2 e1l;go_enter Tryz.func347,Tryz.ntmps347;go_wp2_with fail;refine hc.out.mono ?_;rintro e w1 ⟨rfl,hB1⟩;have HB1:=hid hB1;clear hB1;dsimp only;go_wp2_with fail;refine(hat.out _ HB1.out).mono ?_;rintro e w2 ⟨N,rfl,hN,hcell,hB2⟩;have HB2:=hid hB2;clear hB2 hN hcell;dsimp only;go_wp2_with fail;go_ret2;exact⟨by first|rfl|rw[if_neg HV.out],up HB1.out HB2.out⟩
theorem lx_Natural (l:List UInt8)(w:World)(hE:Env w)(hl:l.length≤4096):
 Calls Tryz.prog 295 #[.string (str l)] w fun e w'=>e= .returned (.tuple #[.int .i64 (natR l).1,.int .i64 (natR l).2])∧Below w.heap.size w w':=by
 have hna:=hid (p_nat l w (by omega));unfold natR;cases hn:natB l with
 |false=>
  rw[if_pos rfl]
  rw[hn]at hna
  clear hn hE
  go_enter Tryz.func295,Tryz.ntmps295
  go_wp2_with fail
  refine hna.out.mono ?_
  rintro e w1 ⟨rfl,hB1⟩
  have HB1:=hid hB1
  clear hB1
  dsimp only
  go_wp2_with fail
  go_ret2
  exact⟨rfl,HB1.out⟩
 |true=>
  rw[if_neg (by decide)]
  rw[hn]at hna
  by_cases h24:24<l.length
  ·have hbig:1099511627776<numOf l:=nat_long hn h24
   have h24':(24:Int)<((str l).size:Int):=by rw[str_size];omega
   rw[if_pos hbig];clear hn hE hbig h24;go_enter Tryz.func295,Tryz.ntmps295;go_wp2_with fail;refine hna.out.mono ?_;rintro e w1 ⟨rfl,hB1⟩;have HB1:=hid hB1;clear hB1;dsimp only;go_wp2_with fail;go_ret2;exact⟨rfl,HB1.out⟩
  ·have h24':¬(24:Int)<((str l).size:Int):=by rw[str_size];omega
   have hs:=hid (fun (w1:World) (hB:Below w.heap.size w w1)=>i_Small l w1 (hE.below hB) hn (by omega));by_cases hv:numOf l<9223372036854775808
   ·have hs2:Hid (∀ (w1:World),Below w.heap.size w w1→Calls Tryz.prog 347 #[.string (str l)] w1 fun e w'=>e= .returned (.tuple #[.int .i64 (numOf l),.int .i64 0])∧Below w1.heap.size w1 w'):=fun w1 hB=>(hs.out w1 hB).mono (fun e w' h=>by rw[if_pos hv]at h;exact h)
    by_cases hm:1099511627776<numOf l
    ·have hm1:(1099511627776:Int)<(numOf l:Int):=by omega
     rw[if_pos hm];have HV:=hid hv;generalize numOf l=v at*
     clear hn hE h24 hs hv hm;go_enter Tryz.func295,Tryz.ntmps295;go_wp2_with fail;refine hna.out.mono ?_;rintro e w1 ⟨rfl,hB1⟩;have HB1:=hid hB1;clear hB1;dsimp only;go_wp2_with fail;refine(hs2.out _ HB1.out).mono ?_;rintro e w2 ⟨rfl,hB2⟩;have HB2:=hid hB2;clear hB2;dsimp only;go_wp2_with fail;go_ret2;exact⟨rfl,up HB1.out HB2.out⟩
    ·have hm1:¬(1099511627776:Int)<(numOf l:Int):=by omega
     rw[if_neg hm];have HV:=hid hv;generalize numOf l=v at*
     clear hn hE h24 hs hv hm;go_enter Tryz.func295,Tryz.ntmps295;go_wp2_with fail;refine hna.out.mono ?_;rintro e w1 ⟨rfl,hB1⟩;have HB1:=hid hB1;clear hB1;dsimp only;go_wp2_with fail;refine(hs2.out _ HB1.out).mono ?_;rintro e w2 ⟨rfl,hB2⟩;have HB2:=hid hB2;clear hB2;dsimp only;go_wp2_with fail;go_ret2;exact⟨rfl,up HB1.out HB2.out⟩
   ·have hs2:Hid (∀ (w1:World),Below w.heap.size w w1→Calls Tryz.prog 347 #[.string (str l)] w1 fun e w'=>e= .returned (.tuple #[.int .i64 0,.int .i64 2])∧Below w1.heap.size w1 w'):=fun w1 hB=>(hs.out w1 hB).mono (fun e w' h=>by rw[if_neg hv]at h;exact h)
    rw[if_pos (by omega)];clear hn hE h24 hs hv;go_enter Tryz.func295,Tryz.ntmps295;go_wp2_with fail;refine hna.out.mono ?_;rintro e w1 ⟨rfl,hB1⟩;have HB1:=hid hB1;clear hB1;dsimp only;go_wp2_with fail;refine(hs2.out _ HB1.out).mono ?_;rintro e w2 ⟨rfl,hB2⟩;have HB2:=hid hB2;clear hB2;dsimp only;go_wp2_with fail;go_ret2;exact⟨rfl,up HB1.out HB2.out⟩
theorem natR_bd (l:List UInt8):0≤(natR l).1∧(natR l).1≤1099511627776:=by
 unfold natR;split
 ·simp
 ·split
  ·simp
  ·dsimp only;omega
def witB (n lo hi:Int):Bool:=decide (lo≤n)&&decide (n≤hi)
theorem n_within (n lo hi:Int)(w:World):
 Calls Tryz.prog 296 #[.int .i64 n,.int .i64 lo,.int .i64 hi] w fun e w'=>e= .returned (.bool (witB n lo hi))∧w=w':=by
 by_cases h1:lo≤n
 ·by_cases h2:n≤hi
  ·go_enter Tryz.func296,Tryz.ntmps296
   go_wp2;go_ret;exact⟨ret_bool (by simp[witB,h1,h2]),rfl⟩
  ·have h2':hi<n:=by omega
   go_enter Tryz.func296,Tryz.ntmps296;go_wp2;go_ret;exact⟨ret_bool (by simp[witB,h1];omega),rfl⟩
 ·have h1':n<lo:=by omega
  go_enter Tryz.func296,Tryz.ntmps296;go_wp2;go_ret;exact⟨ret_bool (by simp[witB];omega),rfl⟩
theorem n_compare (a b c d:Int)(w:World):Calls Tryz.prog 235 #[.agg #[.int .i64 a,.int .i64 b],.agg #[.int .i64 c,.int .i64 d]] w
 fun e w'=>e= .returned (.int .i64 (cmpP a b c d))∧Below w.heap.size w w':=by
 have HZ:=hid (show cmpP a b c d=if cmpI a c≠0 then cmpI a c else cmpI b d from rfl);go_enter Tryz.func235,Tryz.ntmps235;go_upto_region 1 with fail;obtain⟨W0,hW0⟩:∃W:World,W=((w.alloc (.cells #[.int .i64 a,.int .i64 b] 291)).alloc (.cells #[.int .i64 c,.int .i64 d] 291)):=⟨_,rfl⟩;rw[← hW0];have e1:W0.cell? ⟨w.heap.size,0,none⟩=some (.int .i64 a):=by rw[hW0];simp
 have e2:W0.cell? ⟨w.heap.size,1,none⟩=some (.int .i64 b):=by rw[hW0];simp
 have e3:W0.cell? ⟨w.heap.size+1,0,none⟩=some (.int .i64 c):=by rw[hW0];simp
 have e4:W0.cell? ⟨w.heap.size+1,1,none⟩=some (.int .i64 d):=by rw[hW0];simp
 have hBw:Below w.heap.size w W0:=by rw[hW0];go_grown
 have hs0:w.heap.size≤W0.heap.size:=hBw.size;clear hW0;let S:World→Prop:=fun w'=>w'.cell? ⟨w.heap.size,0,none⟩=some (.int .i64 a)∧w'.cell? ⟨w.heap.size,1,none⟩=some (.int .i64 b)∧w'.cell? ⟨w.heap.size+1,0,none⟩=some (.int .i64 c)∧w'.cell? ⟨w.heap.size+1,1,none⟩=some (.int .i64 d)
 (refine wp_region_text 10 [0,1,2,3,5,6,7,8,4,9] S (by kernel_rfl) (by kernel_rfl) (by intro _ _ d _ _ h;cases d<;>exact h) ?hS ?_;rotate_left;simp only[xA,xB,xC,xD,xE,xF]);case hS=>exact⟨e1,e2,e3,e4⟩
 (repeat ((refine' wpSeq_take rfl _ (by rfl) ?_ ?_;rotate_left;focus(intro w' hS;(try dsimp only at hS);obtain⟨s1,s2,s3,s4⟩:=hS;go_simp;(first|done|with_reducible rfl));(try go_frame));(try go_frame)));(refine wpSeq_call rfl (by rfl) (fun K hK=> ?_);go_simp;refine(c_Compare _ _ _).mono ?_;rintro e w1 ⟨rfl,rfl⟩;refine hK _ _ (⟨e1,e2,e3,e4⟩) ?_;clear hK K;(try go_frame));(refine wpSeq_call rfl (by rfl) (fun K hK=> ?_);go_simp;refine(c_Compare _ _ _).mono ?_;rintro e w1 ⟨rfl,rfl⟩;refine hK _ _ (⟨e1,e2,e3,e4⟩) ?_;clear hK K;(try go_frame));refine wpSeq_nil ?_;clear e1 e2 e3 e4 S;have H1:W0.heap.size<(W0.alloc (.cells #[.int .i64 (cmpI a c),.int .i64 (cmpI b d)] 3)).drew.heap.size:=by simp
 have H2:(W0.alloc (.cells #[.int .i64 (cmpI a c),.int .i64 (cmpI b d)] 3)).drew.cell? ⟨W0.heap.size,0,none⟩=some (.int .i64 (cmpI a c)):=by simp
 have H3:(W0.alloc (.cells #[.int .i64 (cmpI a c),.int .i64 (cmpI b d)] 3)).drew.cell? ⟨W0.heap.size,1,none⟩=some (.int .i64 (cmpI b d)):=by simp
 have hor:=hid (c_Or2 (cmpI a c) (cmpI b d) W0.heap.size 2 _ H1 H2 H3 (Nat.le_refl _));rw[← HZ.out]at hor;clear H1 H2 H3;go_wp2_with (go_at_call 219;refine hor.out.mono ?_;rintro e w1 ⟨rfl,rfl⟩);go_ret;exact⟨rfl,by go_grown⟩
theorem load_pair {w:World}{b:Nat}{v0 v1:Value}(c0:w.cell? ⟨b,0,none⟩=some v0)(c1:w.cell? ⟨b,1,none⟩=some v1):
 (loadVar 291 ⟨b,0,none⟩).run Tryz.prog w= .ok (.agg #[v0,v1]) w:=by
 go_simp
theorem cell_new2 (w:World)(v0 v1:Value)(T:TypeId):(w.alloc (.cells #[v0,v1] T)).cell? ⟨w.heap.size,0,none⟩=some v0∧(w.alloc (.cells #[v0,v1] T)).cell? ⟨w.heap.size,1,none⟩=some v1:=by
 refine⟨?_,?_⟩<;>simp[World.cell?_alloc_new]
theorem n_sorted (a b:Int)(w:World):Calls Tryz.prog 222 #[.int .i64 a,.int .i64 b] w fun e w'=>e= .returned (.agg #[.int .i64 (min a b),.int .i64 (max a b)])∧Below w.heap.size w w':=by
 go_enter Tryz.func222,Tryz.ntmps222;go_wp2;refine bodyPost_ret (results_cell1' rfl rfl (load_pair (cell_new2 _ _ _ _).1 (cell_new2 _ _ _ _).2)) rfl ?_;exact⟨rfl,by go_grown⟩
def sortV (word:List UInt8)(sign:UInt8)(f:Nat):Value:= .agg #[.string (str word),.string (str [sign]),.func (.func f) #[] #[]]
theorem load_sort {w:World}{b:Nat}{v0 v1 v2:Value}(c0:w.cell? ⟨b,0,none⟩=some v0)(c1:w.cell? ⟨b,1,none⟩=some v1)(c2:w.cell? ⟨b,2,none⟩=some v2):
 (loadVar 223 ⟨b,0,none⟩).run Tryz.prog w= .ok (.agg #[v0,v1,v2]) w:=by
 go_simp
theorem n_graphs (w:World):Calls Tryz.prog 168 #[] w fun e w'=>e= .returned (sortV wGraph 45 222)∧Below w.heap.size w w':=by
 go_enter Tryz.func168,Tryz.ntmps168;go_wp2;refine bodyPost_ret (results_cell1' rfl rfl (load_sort (cell_new3 _ _ _ _ _).1 (cell_new3 _ _ _ _ _).2.1 (cell_new3 _ _ _ _ _).2.2)) rfl ?_;exact⟨rfl,by go_grown⟩
theorem scanG_ok:∀(n:Nat) (s:List UInt8) (p:Nat) (l:List Tok),s.length<n→scanG n s p= .inr l→0<l.length∧l.length≤s.length+1∧(l[l.length-1]?.getD default).kind=3∧∀t∈l,t.text.length≤s.length
 |0,s,p,l,h,_=>by omega
 |n+1,[],p,l,_,h=>by
  unfold scanG at h;injection h with h
  subst h;exact⟨Nat.le_refl _,Nat.le_refl _,rfl,fun t ht=>by rw[List.mem_singleton.1 ht];exact Nat.le_refl _⟩
 |n+1,c::r,p,l,hn,h=>by
  unfold scanG at h;simp only[List.length_cons]at hn;by_cases h32:c=32
  ·rw[if_pos h32]at h
   obtain⟨h1,h2,h3,h4⟩:=scanG_ok n r (p+1) l (by omega) h;exact⟨h1,by simp;omega,h3,fun t ht=>by have:=h4 t ht;simp;omega⟩
  ·rw[if_neg h32]at h
   by_cases he:tokErr (kindOf c) (runOf (c::r))≠0
   ·rw[if_pos he]at h;cases h
   ·rw[if_neg he]at h
    have hr:=runOf_len c r;have hd:((c::r).drop (runOf (c::r)).length).length=(c::r).length-(runOf (c::r)).length:=List.length_drop;cases hz:scanG n ((c::r).drop (runOf (c::r)).length) (p+(runOf (c::r)).length)with
    |inl x=>rw[hz]at h;cases h
    |inr m=>
     rw[hz]at h
     injection h with h
     subst h
     simp only[List.length_cons]at hr hd
     obtain⟨h1,h2,h3,h4⟩:=scanG_ok n _ _ m (by omega) hz
     refine⟨by simp,by simp only[List.length_cons];omega,?_,?_⟩
     ·rw[List.length_cons,show m.length+1-1=(m.length-1)+1 by omega,List.getElem?_cons_succ]
      exact h3
     ·intro t ht
      rcases List.mem_cons.1 ht with rfl|ht
      ·simp only[List.length_cons];omega
      ·have:=h4 t ht;simp only[List.length_cons];omega
theorem scanR_ok {s:List UInt8}{l:List Tok}(h:scanR s= .inr l):TsOk l:=by
 unfold scanR at h;by_cases hs:4096<s.length
 ·rw[if_pos hs]at h;cases h
 ·rw[if_neg hs]at h
  obtain⟨h1,h2,h3,h4⟩:=scanG_ok _ s 0 l (by omega) h;exact⟨h1,by omega,h3,fun t ht=>by have:=h4 t ht;omega⟩
theorem opened_ok (s:List UInt8):TsOk (opened (scanR s)).ts:=by
 unfold opened;cases h:scanR s with
 |inl x=>exact⟨show 0<1 by decide,show 1≤4097 by decide,rfl,fun t ht=>by rw[List.mem_singleton.1 ht];exact Nat.zero_le _⟩
 |inr l=>exact scanR_ok h
theorem scan_no {s:List UInt8}{x:Int×Int}(h:scanR s= .inl x):x.2≠0:=by
 have key:∀(n:Nat) (s:List UInt8) (p:Nat) (x:Int×Int),scanG n s p= .inl x→x.2≠0:=by
  intro n;induction n with
  |zero=>intro s p x h;cases s<;>cases h
  |succ n ih=>
   intro s p x h
   cases s with
   |nil=>cases h
   |cons c r=>
    unfold scanG at h
    by_cases h32:c=32
    ·rw[if_pos h32]at h;exact ih _ _ _ h
    ·rw[if_neg h32]at h
     by_cases he:tokErr (kindOf c) (runOf (c::r))≠0
     ·rw[if_pos he]at h
      injection h with h
      subst h;exact he
     ·rw[if_neg he]at h
      cases hz:scanG n ((c::r).drop (runOf (c::r)).length) (p+(runOf (c::r)).length)with
      |inl y=>rw[hz]at h;injection h with h;subst h;exact ih _ _ _ hz
      |inr m=>rw[hz]at h;cases h
 unfold scanR at h;split at h
 ·injection h with h;subst h;decide
 ·exact key _ _ _ _ h
theorem ToksR.head {w:World}{v:Value}{l:List Tok}(h:ToksR w v l)(h0:0<l.length):∃tb off cap,v= .slice (some ⟨tb,off,none⟩) l.length cap∧tb<w.heap.size:=by
 obtain⟨a,cap,rfl,_,_,_,hc⟩:=h;obtain⟨b,off,rfl,hb,_⟩:=hc.tok h0;exact⟨b,off,cap,rfl,hb⟩
theorem load_tokens {w:World}{b:Nat}{v0 v1 v2:Value}(c0:w.cell? ⟨b,0,none⟩=some v0)(c1:w.cell? ⟨b,1,none⟩=some v1)(c2:w.cell? ⟨b,2,none⟩=some v2):
 (loadVar 236 ⟨b,0,none⟩).run Tryz.prog w= .ok (.agg #[v0,v1,v2]) w:=by
 go_simp
def RetOpen (w:World)(s:Rs)(e:Ending)(w':World):Prop:=∃lv,e= .returned (.agg #[lv,.int .i64 s.e,.int .i64 s.pl])∧ToksR w' lv s.ts∧Below w.heap.size w w'
theorem open_err (w1:World)(b:Nat)(x1 x2:Int)(hb:Blk w1 b #[.slice none 0 0,.int .i64 0,.int .i64 0] 236)(W:World)
 (hW:W=(((w1.setCell ⟨b,0,none⟩ (.slice (some ⟨w1.heap.size,0,none⟩) 1 1)).setCell ⟨b,1,none⟩ (.int .i64 x2)).setCell ⟨b,2,none⟩ (.int .i64 x1)).alloc (.cells #[.int .i64 3,.string {data:= #[]},.int .i64 0] 307)):
 W.cell? ⟨b,0,none⟩=some (.slice (some ⟨w1.heap.size,0,none⟩) 1 1)∧W.cell? ⟨b,1,none⟩=some (.int .i64 x2)∧W.cell? ⟨b,2,none⟩=some (.int .i64 x1)∧ToksR W (.slice (some ⟨w1.heap.size,0,none⟩) 1 1) [⟨3,[],0⟩]:=by
 have h:=(((hb.set 0 (.slice (some ⟨w1.heap.size,0,none⟩) 1 1)).set 1 (.int .i64 x2)).set 2 (.int .i64 x1)).alloc (.cells #[.int .i64 3,.string {data:= #[]},.int .i64 0] 307);rw[← hW]at h;have h0:=h.cell 0;have h1:=h.cell 1;have h2:=h.cell 2;refine⟨h0.trans rfl,h1.trans rfl,h2.trans rfl,_,_,rfl,Nat.le_refl _,by omega,by decide,?_⟩;refine .inr ⟨w1.heap.size,0,rfl,by rw[hW];simp,fun i hi=> ?_⟩;have hn:=Blk.new (((w1.setCell ⟨b,0,none⟩ (.slice (some ⟨w1.heap.size,0,none⟩) 1 1)).setCell ⟨b,1,none⟩ (.int .i64 x2)).setCell ⟨b,2,none⟩ (.int .i64 x1)) #[.int .i64 3,.string {data:= #[]},.int .i64 0] 307
 rw[← hW]at hn;have:=hn.cell i;simp only[World.size_setCell]at this;rw[Nat.zero_add,this,List.getElem?_toArray];rfl
theorem open_ok (w1:World)(b:Nat)(v:Value)(hb:Blk w1 b #[.slice none 0 0,.int .i64 0,.int .i64 0] 236)(W:World)
 (hW:W=((w1.setCell ⟨b,0,none⟩ v).setCell ⟨b,1,none⟩ (.int .i64 0)).setCell ⟨b,2,none⟩ (.int .i64 0)):
 W.cell? ⟨b,0,none⟩=some v∧W.cell? ⟨b,1,none⟩=some (.int .i64 0)∧W.cell? ⟨b,2,none⟩=some (.int .i64 0):=by
 have h:=(((hb.set 0 v).set 1 (.int .i64 0)).set 2 (.int .i64 0));rw[← hW]at h;exact⟨(h.cell 0).trans rfl,(h.cell 1).trans rfl,(h.cell 2).trans rfl⟩
theorem n_open (s:List UInt8)(w:World):Calls Tryz.prog 228 #[.string (str s)] w (RetOpen w (opened (scanR s))):=by
 have hs:=hid (fun w=>p_Scan s w);have hB0:=hid (Below.alloc (Below.refl w.heap.size w) (Nat.le_refl _) (.cells #[.slice none 0 0,.int .i64 0,.int .i64 0] 236));have hb0:=hid (Blk.new w #[.slice none 0 0,.int .i64 0,.int .i64 0] 236);cases hz:scanR s with
 |inl x=>
  have h0:=scan_no hz
  rw[hz]at hs
  clear hz
  obtain⟨x1,x2⟩:=x
  have hx:(x2 !=0)=true:=by simpa using h0
  clear h0
  go_enter Tryz.func228,Tryz.ntmps228
  go_wp2_with fail
  refine(hs.out _).mono ?_
  rintro e w1 ⟨v,rfl,hown,hB⟩
  have HB:=hid (hB0.out.trans (hB.mono hB0.out.size))
  have HBL:=hid (hb0.out.below hB)
  simp only[Scn.at',Scn.no]
  clear hB hown hB0 hb0
  have hlt:=HBL.out.lt
  have f0:=HBL.out.frozen 0
  have f1:=HBL.out.frozen 1
  have f2:=HBL.out.frozen 2
  have c0:=HBL.out.cell 0
  have c1:=HBL.out.cell 1
  have c2:=HBL.out.cell 2
  simp only[xG,xH,xI]at c0 c1 c2
  go_wp2_with fail
  obtain⟨W,hW⟩:∃W,W=(((w1.setCell ⟨w.heap.size,0,none⟩ (.slice (some ⟨w1.heap.size,0,none⟩) 1 1)).setCell ⟨w.heap.size,1,none⟩ (.int .i64 x2)).setCell ⟨w.heap.size,2,none⟩ (.int .i64 x1)).alloc (.cells #[.int .i64 3,.string {data:= #[]},.int .i64 0] 307):=⟨_,rfl⟩
  rw[← hW]
  obtain⟨d0,d1,d2,ht⟩:=open_err w1 w.heap.size x1 x2 HBL.out W hW
  refine bodyPost_ret (results_cell1' rfl rfl (load_tokens d0 d1 d2)) rfl ⟨_,rfl,ht,?_⟩
  rw[hW]
  exact(((HB.out.setCell (p:=⟨w.heap.size,0,none⟩) (Nat.le_refl _) _).setCell (p:=⟨w.heap.size,1,none⟩) (Nat.le_refl _) _).setCell (p:=⟨w.heap.size,2,none⟩) (Nat.le_refl _) _).alloc (by have:=HB.out.size;simpa using this) _
 |inr l=>
  rw[hz]at hs
  have hok:=scanR_ok hz
  clear hz
  go_enter Tryz.func228,Tryz.ntmps228
  go_wp2_with fail
  refine(hs.out _).mono ?_
  rintro e w1 ⟨v,rfl,hown,hB⟩
  have HT:=hid (owns_toks hown (by have:=hok.2.1;simp only[Scn.toks];omega))
  have HBV:=hid (fun k (hk:v.ownBlock=some k)=>(hown.lt k hk).1)
  have HB:=hid (hB0.out.trans (hB.mono hB0.out.size))
  have HBL:=hid (hb0.out.below hB)
  obtain⟨a,c,rfl,_⟩:=HT.out
  simp only[Scn.at',Scn.no]
  have hw0:w.heap.size<w.heap.size+1:=by omega
  have hsz:(w.alloc (.cells #[.slice none 0 0,.int .i64 0,.int .i64 0] 236)).heap.size=w.heap.size+1:=by simp
  rw[hsz]at HBV
  clear hB hown hB0 hb0 hok hw0 hsz
  have hlt:=HBL.out.lt
  have f0:=HBL.out.frozen 0
  have f1:=HBL.out.frozen 1
  have f2:=HBL.out.frozen 2
  have c0:=HBL.out.cell 0
  have c1:=HBL.out.cell 1
  have c2:=HBL.out.cell 2
  simp only[xG,xH,xI]at c0 c1 c2
  go_wp2_with fail
  obtain⟨W,hW⟩:∃W,W=((w1.setCell ⟨w.heap.size,0,none⟩ (.slice a (Scn.toks (.inr l)).length c)).setCell ⟨w.heap.size,1,none⟩ (.int .i64 0)).setCell ⟨w.heap.size,2,none⟩ (.int .i64 0):=⟨_,rfl⟩
  rw[← hW]
  obtain⟨d0,d1,d2⟩:=open_ok w1 w.heap.size _ HBL.out W hW
  refine bodyPost_ret (results_cell1' rfl rfl (load_tokens d0 d1 d2)) rfl ⟨_,rfl,?_,?_⟩
  ·rw[hW]
   have hne:∀x,a=some x→x.block≠w.heap.size:=fun x hx=>by
    subst hx;have:=HBV.out x.block rfl;omega
   exact((HT.out.grown (grown_set _ _ _ _) hne).grown (grown_set _ _ _ _) hne).grown (grown_set _ _ _ _) hne
  ·rw[hW]
   exact((HB.out.setCell (p:=⟨w.heap.size,0,none⟩) (Nat.le_refl _) _).setCell (p:=⟨w.heap.size,1,none⟩) (Nat.le_refl _) _).setCell (p:=⟨w.heap.size,2,none⟩) (Nat.le_refl _) _
theorem t_number (w:World)(b tb:Nat)(T:TypeId)(rest:List Value)(s:Rs)(hE:Env w)(h:Tk w b tb T rest s)(lo hi:Int):
 Calls Tryz.prog 230 #[.pointer (some ⟨b,0,none⟩),.int .i64 lo,.int .i64 hi] w fun e w'=>e= .returned (.int .i64 (s.num lo hi).1)∧Tk w' b tb T rest (s.num lo hi).2∧w.grownBy w' (some b):=by
 obtain⟨off,cap,hlt,hne,h0,h2,h3,d0,d1,d2,c0,c1,c2,hf⟩:=h.cells;have hbl:=h.lt;have HN:=hid (t_now w b tb T rest s h);have HF:=hid (fun (w1:World) (hB:Below w.heap.size w w1) k p=>t_fail w1 b tb T rest s (h.below hB) k p);have HSK:=hid (fun (w1:World) (hB:Below w.heap.size w w1) h3=>t_skip w1 b tb T rest s (h.below hB) h3);have HNA:=hid (fun (w1:World) (hB:Below w.heap.size w w1)=>lx_Natural s.now.text w1 (hE.below hB) (h.1.text 0));have HD1:Hid (∀ w1,Below w.heap.size w w1→w1.cell? ⟨b,1,none⟩=some (.int .i64 s.e)):=fun w1 hB=>(hB.cell hbl).trans d1;have HBD:=hid (natR_bd s.now.text);obtain⟨z,hz⟩:∃z,z=s.num lo hi:=⟨_,rfl⟩
 rw[← hz];have HZ:=hid hz;clear d0 d1 d2 c0 c1 c2 hf h h0 h2 h3 hz hE hne hlt;unfold Rs.num at HZ;by_cases he:s.e=0
 case neg=>
  have he1:(s.e !=0)=true:=by simpa using he
  obtain rfl:z=(0,s.fail 4 s.now.pos):=by rw[HZ.out,if_pos (.inl he)]
  clear HZ HNA HSK HBD he;go_enter Tryz.func230,Tryz.ntmps230;go_wp2_with fail;refine HN.out.mono ?_;rintro e w1 ⟨rfl,hB1⟩;have HB1:=hid hB1;clear hB1;dsimp only;have x1:=HD1.out _ (HB1.out.alloc HB1.out.size (.cells #[.int .i64 s.now.kind,.string (str s.now.text),.int .i64 s.now.pos] 307));have q0:=tok_kind;generalize s.e=ee at*
  go_wp2_with fail;refine(HF.out _ (HB1.out.alloc HB1.out.size _) 4 s.now.pos).mono ?_;rintro e w3 ⟨rfl,hT3,hg⟩;dsimp only;go_wp2_with fail;go_ret;exact⟨rfl,hT3,grown_trans (grown_of (HB1.out.alloc HB1.out.size _) _) hg⟩
 by_cases hk:s.now.kind=1
 case neg=>
  have hk1:(s.now.kind !=1)=true:=by simpa using hk
  have hk2:(s.now.kind==1)=false:=by simpa using hk
  obtain rfl:z=(0,s.fail 4 s.now.pos):=by rw[HZ.out,if_pos (.inr hk)]
  rw[he]at HD1;clear HZ HNA HSK HBD he hk;go_enter Tryz.func230,Tryz.ntmps230;go_wp2_with fail;refine HN.out.mono ?_;rintro e w1 ⟨rfl,hB1⟩;have HB1:=hid hB1;clear hB1;dsimp only;have x1:=HD1.out _ (HB1.out.alloc HB1.out.size (.cells #[.int .i64 s.now.kind,.string (str s.now.text),.int .i64 s.now.pos] 307));have q0:=tok_kind;generalize s.now.kind=kk at*
  go_wp2_with fail;refine(HF.out _ (HB1.out.alloc HB1.out.size _) 4 s.now.pos).mono ?_;rintro e w3 ⟨rfl,hT3,hg⟩;dsimp only;go_wp2_with fail;go_ret;exact⟨rfl,hT3,grown_trans (grown_of (HB1.out.alloc HB1.out.size _) _) hg⟩
 have hk3:s.now.kind≠3:=by rw[hk];decide
 have HK3:=hid hk3;rw[he]at HD1;rw[hk]at HN;clear hk3;rw[if_neg (show ¬(s.e≠0∨s.now.kind≠1) by simp[he,hk])]at HZ;by_cases hr:(natR s.now.text).2=0
 case neg=>
  have hr':((natR s.now.text).2 !=0)=true:=by simpa using hr
  obtain rfl:z=(0,s.fail 2 s.now.pos):=by rw[HZ.out,if_pos (.inl hr)]
  clear HZ HSK HBD he hk hr HK3;go_enter Tryz.func230,Tryz.ntmps230;go_wp2_with fail;refine HN.out.mono ?_;rintro e w1 ⟨rfl,hB1⟩;have HB1:=hid hB1;clear hB1;dsimp only;have x1:=HD1.out _ (HB1.out.alloc HB1.out.size (.cells #[.int .i64 1,.string (str s.now.text),.int .i64 s.now.pos] 307));have q0:=tok_kind;generalize (natR s.now.text).2=ee at*
  go_wp2_with fail;refine(HNA.out _ (HB1.out.alloc HB1.out.size _)).mono ?_;rintro e w2 ⟨rfl,hB2⟩;have HB2:=hid (up (HB1.out.alloc HB1.out.size _) hB2);have x2:w2.cell? ⟨w1.heap.size,2,none⟩=some (.int .i64 s.now.pos):=by
   rw[hB2.cell (by simp)];simp
  have x2l:w1.heap.size<w2.heap.size:=by have:=hB2.size;simp at this;omega
  clear hB2 x1;dsimp only;go_wp2_with fail;refine(HF.out _ HB2.out 2 s.now.pos).mono ?_;rintro e w3 ⟨rfl,hT3,hg⟩;dsimp only;go_wp2_with fail;go_ret;exact⟨rfl,hT3,grown_trans (grown_of HB2.out _) hg⟩
 by_cases hw:witB (natR s.now.text).1 lo hi=true
 case neg=>
  have hw':witB (natR s.now.text).1 lo hi=false:=by simpa using hw
  have hw2:(natR s.now.text).1<lo∨hi<(natR s.now.text).1:=by
   unfold witB at hw';simp at hw';omega
  obtain rfl:z=(0,s.fail 2 s.now.pos):=by rw[HZ.out,if_pos (.inr hw2)]
  rw[hr]at HNA;clear HZ HSK he hk hr HK3 hw hw2;go_enter Tryz.func230,Tryz.ntmps230;go_wp2_with fail;refine HN.out.mono ?_;rintro e w1 ⟨rfl,hB1⟩;have HB1:=hid hB1;clear hB1;dsimp only;have x1:=HD1.out _ (HB1.out.alloc HB1.out.size (.cells #[.int .i64 1,.string (str s.now.text),.int .i64 s.now.pos] 307));have q0:=tok_kind;have hwi:=hid (fun w=>n_within (natR s.now.text).1 lo hi w);rw[hw']at hwi;clear hw';have hb0:=HBD.out;generalize (natR s.now.text).1=nn at*
  go_wp2_with fail;refine(HNA.out _ (HB1.out.alloc HB1.out.size _)).mono ?_;rintro e w2 ⟨rfl,hB2⟩;have HB2:=hid (up (HB1.out.alloc HB1.out.size _) hB2);have x2:w2.cell? ⟨w1.heap.size,2,none⟩=some (.int .i64 s.now.pos):=by
   rw[hB2.cell (by simp)];simp
  have x2l:w1.heap.size<w2.heap.size:=by have:=hB2.size;simp at this;omega
  clear hB2 x1;dsimp only;go_wp2_with fail;refine(hwi.out _).mono ?_;rintro e w3 ⟨rfl,rfl⟩;dsimp only;go_wp2_with fail;refine(HF.out _ HB2.out 2 s.now.pos).mono ?_;rintro e w4 ⟨rfl,hT3,hg⟩;dsimp only;go_wp2_with fail;go_ret;exact⟨rfl,hT3,grown_trans (grown_of HB2.out _) hg⟩
 have hw2:¬((natR s.now.text).1<lo∨hi<(natR s.now.text).1):=by
  unfold witB at hw;simp at hw;omega
 obtain rfl:z=((natR s.now.text).1,s.skip):=by rw[HZ.out,if_neg (show ¬((natR s.now.text).2≠0∨(natR s.now.text).1<lo∨hi<(natR s.now.text).1)from fun h=>h.elim (fun h=>h hr) hw2)]
 rw[hr]at HNA;clear HZ HF he hk hr hw2;have hwi:=hid (fun w=>n_within (natR s.now.text).1 lo hi w);rw[hw]at hwi;clear hw;have hb0:=HBD.out;clear HBD;generalize (natR s.now.text).1=nn at*
 go_enter Tryz.func230,Tryz.ntmps230;go_wp2_with fail;refine HN.out.mono ?_;rintro e w1 ⟨rfl,hB1⟩;have HB1:=hid hB1;clear hB1;dsimp only;have x1:=HD1.out _ (HB1.out.alloc HB1.out.size (.cells #[.int .i64 1,.string (str s.now.text),.int .i64 s.now.pos] 307));have q0:=tok_kind;go_wp2_with fail;refine(HNA.out _ (HB1.out.alloc HB1.out.size _)).mono ?_;rintro e w2 ⟨rfl,hB2⟩;have HB2:=hid (up (HB1.out.alloc HB1.out.size _) hB2);clear hB2 x1;dsimp only;go_wp2_with fail;refine(hwi.out _).mono ?_;rintro e w3 ⟨rfl,rfl⟩;dsimp only;go_wp2_with fail;refine(HSK.out _ HB2.out HK3.out).mono ?_;rintro e w4 ⟨rfl,hT4,hg⟩
 dsimp only;go_wp2_with fail;go_ret;exact⟨rfl,hT4,grown_trans (grown_of HB2.out _) hg⟩
def EnvB (w:World)(b:Nat):Prop:=Env w∧b≠3∧b≠0
theorem pow_g:Tryz.prog.globalNamed "internal/strconv.uint64pow10" =some 0:=by kernel_rfl
theorem EnvB.grown {w w':World}{b:Nat}(h:EnvB w b)(hg:w.grownBy w' (some b)):EnvB w' b:=
 ⟨h.1.grown hg (fun _ _=>h.2.1) (fun g hg=>by rw[pow_g]at hg;exact Option.some.inj hg▸h.2.2),h.2⟩
theorem EnvB.below {w w':World}{b:Nat}(h:EnvB w b)(hB:Below w.heap.size w w'):EnvB w' b:=⟨h.1.below hB,h.2⟩
theorem Env.lt {w:World}(h:Env w):3<w.heap.size∧0<w.heap.size:=by
 obtain⟨⟨ev,h1,_⟩,h3⟩:=h;refine⟨cell_lt h1,?_⟩;unfold Lib.TabIs World.var? at h3;rw[pow_g]at h3;simp only[Option.bind_some]at h3;rcases Nat.lt_or_ge 0 w.heap.size with h'|h'
 ·exact h'
 ·rw[Array.getElem?_eq_none h']at h3;cases h3
theorem Env.atB {w:World}(h:Env w){b:Nat}(hb:w.heap.size≤b):EnvB w b:=⟨h,by have:=h.lt;omega,by have:=h.lt;omega⟩
def rdRest (word:List UInt8)(sign:UInt8)(f:Nat)(n:Int):List Value:=[.string (str word),.string (str [sign]),.func (.func f) #[] #[],.int .i64 n]
theorem Tk.setN {w:World}{b tb:Nat}{T:TypeId}{word:List UInt8}{sign:UInt8}{f:Nat}{n:Int}{s:Rs}(h:Tk w b tb T (rdRest word sign f n) s)(k:Int):Tk (w.setCell ⟨b,6,none⟩ (.int .i64 k)) b tb T (rdRest word sign f k) s:=by
 obtain⟨h0,off,cap,hb,hne,ht⟩:=h;refine⟨h0,off,cap,?_,hne,ht.grown (grown_set _ _ _ _) (fun x hx=>by cases hx;exact hne)⟩;have:=hb.set 6 (.int .i64 k);unfold rdRest at this⊢;simpa only[xM,xJ,xK]using this
theorem Tk.rest {w:World}{b tb:Nat}{T:TypeId}{word:List UInt8}{sign:UInt8}{f:Nat}{n:Int}{s:Rs}(h:Tk w b tb T (rdRest word sign f n) s):
 w.cell? ⟨b,1,none⟩=some (.int .i64 s.e)∧w.cell? ⟨b,3,none⟩=some (.string (str word))∧w.cell? ⟨b,4,none⟩=some (.string (str [sign]))∧w.cell? ⟨b,5,none⟩=some (.func (.func f) #[] #[])∧w.cell? ⟨b,6,none⟩=some (.int .i64 n):=by
 obtain⟨h0,off,cap,hb,hne,ht⟩:=h;unfold rdRest at hb;have d1:=hb.cell 1;have d3:=hb.cell 3;have d4:=hb.cell 4;have d5:=hb.cell 5;have d6:=hb.cell 6;simp only[xG,xH,xI]at d1 d3 d4 d5 d6;exact⟨d1,d3,d4,d5,d6⟩
theorem Tk.frozen {w:World}{b tb:Nat}{T:TypeId}{rest:List Value}{s:Rs}(h:Tk w b tb T rest s)(k:Nat):w.frozen? ⟨b,k,none⟩=false:=by
 obtain⟨h0,off,cap,hb,hne,ht⟩:=h;exact hb.frozen k
theorem Tk.new {w:World}{tb off n cap:Nat}{s:Rs}(hs:TsOk s.ts)(ht:ToksR w (.slice (some ⟨tb,off,none⟩) n cap) s.ts)(T:TypeId)(rest:List Value):
 Tk (w.alloc (.cells (Value.slice (some ⟨tb,off,none⟩) n cap::Value.int .i64 s.e::Value.int .i64 s.pl::rest).toArray T)) w.heap.size tb T rest s:=by
 obtain⟨b',o',c',e,hlt⟩:=ht.head hs.1;injection e with e1 e2 e3
 obtain⟨rfl,rfl⟩:tb=b'∧off=o':=by simpa using e1
 subst e2;exact⟨hs,off,cap,Blk.new _ _ _,by omega,ht.below ((Below.refl _ _).alloc (Nat.le_refl _) _)⟩
def RetBegR (T:TypeId)(w:World)(word:List UInt8)(sign:UInt8)(f:Nat)(p:Int×Rs)(e:Ending)(w':World):Prop:=
 ∃rb tb,e= .returned (.pointer (some ⟨rb,0,none⟩))∧w.heap.size≤rb∧Tk w' rb tb T (rdRest word sign f p.1) p.2∧Below w.heap.size w w'
theorem n_begin (text word:List UInt8)(sign:UInt8)(f:Nat)(w:World)(hE:Env w):
 Calls Tryz.prog 174 #[.string (str text),sortV word sign f] w (RetBegR 238 w word sign f ((opened (scanR text)).head word)):=by
 have hop:=hid (fun w=>n_open text w);have hok:=hid (opened_ok text);unfold Rs.head;generalize opened (scanR text)=s at*
 unfold sortV;go_enter Tryz.func174,Tryz.ntmps174;go_upto_region 1 with fail;obtain⟨W0,hW0⟩:∃W:World,W=w.alloc (.cells #[.string (str word),.string (str [sign]),.func (.func f) #[] #[]] 223):=⟨_,rfl⟩;rw[← hW0];have hb0:Blk W0 w.heap.size #[.string (str word),.string (str [sign]),.func (.func f) #[] #[]] 223:=by rw[hW0];exact Blk.new _ _ _
 have HB0:Hid (Below w.heap.size w W0):=by rw[hW0];exact(Below.refl _ _).alloc (Nat.le_refl _) _
 have HW0:=hid hW0;clear hW0;let S:World→Prop:=fun w'=>w'.cell? ⟨w.heap.size,0,none⟩=some (.string (str word))∧w'.cell? ⟨w.heap.size,1,none⟩=some (.string (str [sign]))∧w'.cell? ⟨w.heap.size,2,none⟩=some (.func (.func f) #[] #[])
 have hSk:Hid (∀ W,Below W0.heap.size W0 W→S W):=fun W h=>⟨((hb0.below h).cell 0).trans rfl,((hb0.below h).cell 1).trans rfl,((hb0.below h).cell 2).trans rfl⟩;(refine wp_region_text 4 [0,2,1,3] S (by kernel_rfl) (by kernel_rfl) (by intro _ _ d _ _ h;cases d<;>exact h) ?hS ?_;rotate_left;simp only[xA,xB,xC,xD,xE,xF]);case hS=>exact hSk.out _ (Below.drew (Below.refl _ _))
 (repeat ((refine' wpSeq_take rfl _ (by rfl) ?_ ?_;rotate_left;focus(intro w' hS;(try dsimp only at hS);obtain⟨s1,s2,s3⟩:=hS;go_simp;(first|done|with_reducible rfl));(try go_frame));(try go_frame)));refine wpSeq_call rfl (by rfl) (fun K hK=> ?_);go_simp;refine(hop.out _).mono ?_;rintro e w1 ⟨lv,rfl,ht,hB⟩;have HB1:=hid ((Below.drew (Below.refl W0.heap.size W0)).trans hB);have HT:=hid ht;obtain⟨tb,toff,tcap,rfl,_⟩:=ht.head hok.out.1;refine hK _ _ (hSk.out _ HB1.out) ?_;clear hK K hB ht hop;(repeat ((refine' wpSeq_take rfl _ (by rfl) ?_ ?_;rotate_left;focus(intro w' hS;(try dsimp only at hS);obtain⟨s1,s2,s3⟩:=hS;go_simp;(first|done|with_reducible rfl));(try go_frame));(try go_frame)))
 refine wpSeq_nil ?_;clear S hSk;go_wp2_with fail;have hT2:Tk (w1.alloc (.cells #[.slice (some ⟨tb,toff,none⟩) s.ts.length tcap,.int .i64 s.e,.int .i64 s.pl,.string (str word),.string (str [sign]),.func (.func f) #[] #[],.int .i64 0] 238)) w1.heap.size tb 238 (rdRest word sign f 0) s:=Tk.new hok.out HT.out _ _;have hB2:Below w.heap.size w (w1.alloc (.cells #[.slice (some ⟨tb,toff,none⟩) s.ts.length tcap,.int .i64 s.e,.int .i64 s.pl,.string (str word),.string (str [sign]),.func (.func f) #[] #[],.int .i64 0] 238)):=((HB0.out.trans (HB1.out.mono HB0.out.size))).alloc (Nat.le_trans HB0.out.size HB1.out.size) _
 have hrb:w.heap.size≤w1.heap.size:=Nat.le_trans HB0.out.size HB1.out.size;have HRB:=hid hrb;generalize w1.heap.size=rb at*
 generalize w1.alloc (.cells #[.slice (some ⟨tb,toff,none⟩) s.ts.length tcap,.int .i64 s.e,.int .i64 s.pl,.string (str word),.string (str [sign]),.func (.func f) #[] #[],.int .i64 0] 238)=W2 at*
 have HB2:=hid hB2;have HT2:=hid hT2;clear hB2 hT2 HB1 HT hrb HW0 hb0 HB0;let S:World→Prop:=fun w'=>w'.cell? ⟨rb,3,none⟩=some (.string (str word))
 (refine wp_region_text 8 [0,1,2,3,4,5,6,7] S (by kernel_rfl) (by kernel_rfl) (by intro _ _ d _ _ h;cases d<;>exact h) ?hS ?_;rotate_left;simp only[xA,xB,xC,xD,xE,xF]);case hS=>exact HT2.out.rest.2.1
 (repeat ((refine' wpSeq_take rfl _ (by rfl) ?_ ?_;rotate_left;focus(intro w' hS;(try dsimp only at hS);have s1:w'.cell? ⟨rb,3,none⟩=some (.string (str word)):=hS;go_simp;(first|done|with_reducible rfl));(try go_frame));(try go_frame)));refine wpSeq_nil ?_;clear S;have HT3:=hid (HT2.out.below (Below.drew (Below.refl _ _)));have HB3:=hid (HB2.out.drew);clear HT2 HB2;generalize W2.drew=W3 at*
 have hl3:=HT3.out.lt;go_wp2_with fail;refine(t_need W3 rb tb _ _ s HT3.out word).mono ?_;rintro e w4 ⟨rfl,hT4,hg4⟩;have HT4:=hid hT4;have HB4:=hid (below_of_grown HB3.out hg4 HB3.out.size HRB.out);clear hT4 hg4 HT3 HB3 hl3;dsimp only;have hl4:=HT4.out.lt;go_wp2_with fail;refine(t_number w4 rb tb _ _ _ (hE.below HB4.out) HT4.out 1 12).mono ?_;rintro e w5 ⟨rfl,hT5,hg5⟩;have HT5:=hid hT5;have HB5:=hid (below_of_grown HB4.out hg5 HB4.out.size HRB.out);clear hT5 hg5 HT4 HB4 hl4;have hl5:=HT5.out.lt;have f6:w5.frozen? ⟨rb,6,none⟩=false:=HT5.out.frozen 6;have c6:=HT5.out.rest.2.2.2.2;generalize (s.need word).num 1 12=p at*
 obtain⟨n,s5⟩:=p;dsimp only at c6 HT5⊢;go_wp2_with fail;have HT6:=hid (HT5.out.setN n);have HB6:=hid (HB5.out.setCell (p:=⟨rb,6,none⟩) HRB.out (.int .i64 n));clear HT5 HB5 hl5 f6 c6;refine(t_need _ rb tb _ _ s5 HT6.out [58]).mono ?_;rintro e w7 ⟨rfl,hT7,hg7⟩;have HT7:=hid hT7;have HB7:=hid (below_of_grown HB6.out hg7 HB6.out.size HRB.out);clear hT7 hg7 HT6 HB6;dsimp only;go_wp2_with fail;go_ret;exact⟨rb,tb,rfl,HRB.out,HT7.out,HB7.out⟩
structure LnI (w0 w:World)(rb tb X R:Nat)(T:TypeId)(rest:List Value)(s:Rs)(xc:Array Value):Prop where
 tk:Tk w rb tb T rest s
 bx:Blk w X xc 293
 br:Blk w R #[.int .i64 0,.int .i64 0,.int .i64 0,.int .i64 0] 293
 g:w0.grownBy w (some rb)
 env:EnvB w rb
 nx:X≠rb
 nr:R≠rb
 ne:X≠R
 nt:tb≠X
 ntr:tb≠R
 h0:w0.heap.size≤X
 h0r:w0.heap.size≤R
section
variable {w0 w w' : World} {rb tb X R : Nat} {T : TypeId} {rest : List Value} {s s' : Rs} {xc : Array Value}
theorem LnI.step (h:LnI w0 w rb tb X R T rest s xc)(ht:Tk w' rb tb T rest s')(hg:w.grownBy w' (some rb)):LnI w0 w' rb tb X R T rest s' xc:=
 ⟨ht,h.bx.grown hg (fun e=>h.nx (Option.some.inj e).symm),h.br.grown hg (fun e=>h.nr (Option.some.inj e).symm),grown_trans h.g hg,h.env.grown hg,h.nx,h.nr,h.ne,h.nt,h.ntr,h.h0,h.h0r⟩
theorem LnI.below (h:LnI w0 w rb tb X R T rest s xc)(hB:Below w.heap.size w w'):LnI w0 w' rb tb X R T rest s xc:=h.step (h.tk.below hB) (grown_of hB _)
theorem grown_setN (w:World)(g k:Nat)(v:Value){w0:World}(hg:w0.heap.size≤g)(r:Option Nat)(h:w0.grownBy w r):w0.grownBy (w.setCell ⟨g,k,none⟩ v) r:=
 ⟨h.os,h.tape,h.output,by simpa[World.setCell]using h.size,fun j hj hne=>(Below.heap_setCell _ _ _ _ (by simp;omega)).trans (h.block j hj hne)⟩
theorem Tk.setO (h:Tk w rb tb T rest s){g:Nat}(h1:rb≠g)(h2:tb≠g)(k:Nat)(v:Value):Tk (w.setCell ⟨g,k,none⟩ v) rb tb T rest s:=by
 obtain⟨a0,off,cap,hb,hne,ht⟩:=h;exact⟨a0,off,cap,hb.other h1 k v,hne,ht.grown (grown_set _ _ _ _) (fun x hx=>by cases hx;exact h2)⟩
theorem Env.setO (h:Env w){g:Nat}(h1:g≠3)(h2:g≠0)(k:Nat)(v:Value):Env (w.setCell ⟨g,k,none⟩ v):=
 h.grown (grown_set w g k v) (fun _ _=>h1) (fun g' hg=>by rw[pow_g]at hg;exact Option.some.inj hg▸h2)
theorem LnI.setX (h:LnI w0 w rb tb X R T rest s xc)(he:Env w0)(k:Nat)(v:Value):LnI w0 (w.setCell ⟨X,k,none⟩ v) rb tb X R T rest s (xc.setIfInBounds k v):=
 ⟨h.tk.setO (Ne.symm h.nx) h.nt k v,h.bx.set k v,h.br.other (Ne.symm h.ne) k v,grown_setN _ _ _ _ h.h0 _ h.g,⟨h.env.1.setO (by have:=he.lt;have:=h.h0;omega) (by have:=he.lt;have:=h.h0;omega) k v,h.env.2⟩,h.nx,h.nr,h.ne,h.nt,h.ntr,h.h0,h.h0r⟩
theorem LnI.xcell (h:LnI w0 w rb tb X R T rest s xc)(k:Nat):w.cell? ⟨X,k,none⟩=xc[k]? :=h.bx.cell k
end
theorem load_line {w:World}{b:Nat}{v0 v1 v2 v3:Value}(h:Blk w b #[v0,v1,v2,v3] 293):
 (loadVar 293 ⟨b,0,none⟩).run Tryz.prog w= .ok (.agg #[v0,v1,v2,v3]) w:=by
 have c0:=h.cell 0;have c1:=h.cell 1;have c2:=h.cell 2;have c3:=h.cell 3;simp only[xG,xH,xI]at c0 c1 c2 c3;go_simp
theorem LnI.ret {w0 w:World}{rb tb X R:Nat}{T:TypeId}{rest:List Value}{s:Rs}{xc:Array Value}(h:LnI w0 w rb tb X R T rest s xc)(v0 v1 v2 v3:Value)(W:World)(hW:W=(((w.setCell ⟨R,0,none⟩ v0).setCell ⟨R,1,none⟩ v1).setCell ⟨R,2,none⟩ v2).setCell ⟨R,3,none⟩ v3):
 (loadVar 293 ⟨R,0,none⟩).run Tryz.prog W= .ok (.agg #[v0,v1,v2,v3]) W∧Tk W rb tb T rest s∧w0.grownBy W (some rb):=by
 have hb:=(((h.br.set 0 v0).set 1 v1).set 2 v2).set 3 v3;have hn:=Ne.symm h.nr;rw[hW];exact⟨load_line hb,(((h.tk.setO hn h.ntr 0 v0).setO hn h.ntr 1 v1).setO hn h.ntr 2 v2).setO hn h.ntr 3 v3,grown_setN _ _ _ _ h.h0r _ (grown_setN _ _ _ _ h.h0r _ (grown_setN _ _ _ _ h.h0r _ (grown_setN _ _ _ _ h.h0r _ h.g)))⟩
def lnV (either:Bool)(x:Ln):Value:= .agg #[.int .i64 (lo either x),.int .i64 (hi either x),.int .i64 x.m,.int .i64 x.pl]
def EndsF (f:Nat)(either:Bool):Prop:=∀(a b:Int) (w:World),Calls Tryz.prog f #[.int .i64 a,.int .i64 b] w fun e w'=>e= .returned (.agg #[.int .i64 (if either then min a b else a),.int .i64 (if either then max a b else b)])∧Below w.heap.size w w'
theorem ends_sorted:EndsF 222 true:=fun a b w=>n_sorted a b w
theorem n_line (either:Bool)(sign:UInt8)(word:List UInt8)(f:Nat)(hf:EndsF f either)(hfn:∀args w,(callFunc f args).run Tryz.prog w= .ok (.enter f args) w)(n:Int)(hn1:1≤n)(hn2:n≤12)(s:Rs)(rb tb:Nat)(w:World)(hE:EnvB w rb)(hT:Tk w rb tb 238 (rdRest word sign f n) s):
 Calls Tryz.prog 232 #[.pointer (some ⟨rb,0,none⟩)] w fun e w'=>e= .returned (lnV either (s.line sign n).1)∧Tk w' rb tb 238 (rdRest word sign f n) (s.line sign n).2∧w.grownBy w' (some rb):=by
 have hl:=hT.lt;have HB0:=hid (Below.alloc (Below.refl w.heap.size w) (Nat.le_refl _) (.cells #[.int .i64 0,.int .i64 0,.int .i64 0,.int .i64 0] 293));have HR:=hid (Blk.new w #[.int .i64 0,.int .i64 0,.int .i64 0,.int .i64 0] 293);have HT:=hid (hT.below HB0.out);have HE:=hid hE;have HN:=hid (t_now _ rb tb _ _ s HT.out);have htb:tb<w.heap.size:=by obtain⟨_,_,h,_⟩:=hT.cells;exact h
 have HTB:=hid htb;clear hE hT htb;obtain⟨Z,hZ⟩:∃Z,Z=s.line sign n:=⟨_,rfl⟩;rw[← hZ];have HZ:=hid hZ;clear hZ;have q2:=tok_pos;go_enter Tryz.func232,Tryz.ntmps232;go_wp2_with fail;refine HN.out.mono ?_;rintro e w1 ⟨rfl,hB1⟩;have HB1:=hid (HB0.out.trans (hB1.mono HB0.out.size));have HT1:=hid (HT.out.below hB1);have HR1:=hid (HR.out.below hB1);clear hB1 HT HR HN HB0;dsimp only;go_wp2_with fail;have hsz1:w.heap.size+1≤w1.heap.size:=by have:=HR1.out.lt;omega
 have HI:Hid (LnI w (w1.alloc (.cells #[.int .i64 0,.int .i64 0,.int .i64 1,.int .i64 s.now.pos] 293)) rb tb w1.heap.size w.heap.size 238 (rdRest word sign f n) s #[.int .i64 0,.int .i64 0,.int .i64 1,.int .i64 s.now.pos]):=by
  have hb2:Below w.heap.size w (w1.alloc (.cells #[.int .i64 0,.int .i64 0,.int .i64 1,.int .i64 s.now.pos] 293)):=HB1.out.alloc HB1.out.size _;refine⟨HT1.out.below ((Below.refl _ _).alloc (Nat.le_refl _) _),Blk.new _ _ _,HR1.out.alloc _,grown_of hb2 _,HE.out.below hb2,by omega,by omega,by omega,?_,?_,by omega,Nat.le_refl _⟩<;>have:=HTB.out<;>omega
 have HEW:=hid HE.out.1;unfold Rs.line at HZ;generalize s.now.pos=ps at*
 generalize hX:w1.heap.size=X at*
 generalize hR:w.heap.size=R at*
 generalize w1.alloc (.cells #[.int .i64 0,.int .i64 0,.int .i64 1,.int .i64 ps] 293)=W2 at*
 clear hX hR hsz1 HT1 HR1 HB1 HTB HE;have wn:IntKind.i64.wrap (n-1)=n-1:=IntWalk.i64_in _ (by omega);have hn0:0≤n-1:=by omega
 let S:World→Prop:=fun w'=>w'.cell? ⟨rb,6,none⟩=some (.int .i64 n)
 (refine wp_region_text 8 [0,1,2,3,4,5,6,7] S (by kernel_rfl) (by kernel_rfl) (by intro _ _ d _ _ h;cases d<;>exact h) ?hS ?_;rotate_left;simp only[xA,xB,xC,xD,xE,xF]);case hS=>exact HI.out.tk.rest.2.2.2.2
 (repeat ((refine' wpSeq_take rfl _ (by rfl) ?_ ?_;rotate_left;focus(intro w' hS;(try dsimp only at hS);have s1:w'.cell? ⟨rb,6,none⟩=some (.int .i64 n):=hS;go_simp;(first|done|with_reducible rfl));(try go_frame));(try go_frame)));refine wpSeq_nil ?_;clear S;have HAd:=hid (HI.out.below (Below.drew (Below.refl _ _)));have hl:=HAd.out.tk.lt;clear HI;go_wp2_with fail;refine(t_number _ rb tb _ _ _ HAd.out.env.1 HAd.out.tk 0 (n-1)).mono ?_;rintro e w3 ⟨rfl,ht,hg⟩;have HA:=hid (HAd.out.step ht hg);clear ht hg HAd hl;dsimp only;go_wp2_with fail;generalize s.num 0 (n-1)=p1 at*
 obtain⟨a,s1⟩:=p1;dsimp only at HA HZ⊢;let S:World→Prop:=fun w'=>w'.cell? ⟨rb,4,none⟩=some (.string (str [sign]))
 (refine wp_region_text 8 [0,1,2,3,4,5,6,7] S (by kernel_rfl) (by kernel_rfl) (by intro _ _ d _ _ h;cases d<;>exact h) ?hS ?_;rotate_left;simp only[xA,xB,xC,xD,xE,xF]);case hS=>exact HA.out.tk.rest.2.2.1
 (repeat ((refine' wpSeq_take rfl _ (by rfl) ?_ ?_;rotate_left;focus(intro w' hS;(try dsimp only at hS);have s1:w'.cell? ⟨rb,4,none⟩=some (.string (str [sign])):=hS;go_simp;(first|done|with_reducible rfl));(try go_frame));(try go_frame)));refine wpSeq_nil ?_;clear S;have HBd:=hid (HA.out.below (Below.drew (Below.refl _ _)));have hl:=HBd.out.tk.lt;clear HA;go_wp2_with fail;refine(t_need _ rb tb _ _ _ HBd.out.tk [sign]).mono ?_;rintro e w4 ⟨rfl,ht,hg⟩;have HB:=hid (HBd.out.step ht hg);clear ht hg HBd hl;dsimp only;go_wp2_with fail;generalize s1.need [sign]=s2 at*
 let S:World→Prop:=fun w'=>w'.cell? ⟨rb,6,none⟩=some (.int .i64 n)
 (refine wp_region_text 8 [0,1,2,3,4,5,6,7] S (by kernel_rfl) (by kernel_rfl) (by intro _ _ d _ _ h;cases d<;>exact h) ?hS ?_;rotate_left;simp only[xA,xB,xC,xD,xE,xF]);case hS=>exact HB.out.tk.rest.2.2.2.2
 (repeat ((refine' wpSeq_take rfl _ (by rfl) ?_ ?_;rotate_left;focus(intro w' hS;(try dsimp only at hS);have s1:w'.cell? ⟨rb,6,none⟩=some (.int .i64 n):=hS;go_simp;(first|done|with_reducible rfl));(try go_frame));(try go_frame)));refine wpSeq_nil ?_;clear S;have HCd:=hid (HB.out.below (Below.drew (Below.refl _ _)));have hl:=HCd.out.tk.lt;clear HB;go_wp2_with fail;refine(t_number _ rb tb _ _ _ HCd.out.env.1 HCd.out.tk 0 (n-1)).mono ?_;rintro e w5 ⟨rfl,ht,hg⟩;have HC:=hid (HCd.out.step ht hg);clear ht hg HCd hl;dsimp only;generalize s2.num 0 (n-1)=p2 at*
 obtain⟨b,s3⟩:=p2;dsimp only at HC HZ⊢;have c5:=HC.out.tk.rest.2.2.2.1;have hlX:=HC.out.bx.lt;have fX0:=HC.out.bx.frozen 0;have fX1:=HC.out.bx.frozen 1;go_wp2_with fail;refine(hf a b _).mono ?_;rintro e w6 ⟨rfl,hB6⟩;have HD:=hid (HC.out.below hB6);clear hB6 HC c5 hlX fX0 fX1;have hlX:=HD.out.bx.lt;have fX0:=HD.out.bx.frozen 0;have fX1:=HD.out.bx.frozen 1;have hl:=HD.out.tk.lt;have x0:=HD.out.xcell 0;have x1:=HD.out.xcell 1;simp only[xG,xH,xI]at x0 x1;generalize hA:(if either=true then min a b else a)=A at*
 generalize hBb:(if either=true then max a b else b)=B at*
 have HAA:=hid hA;have HBB:=hid hBb;clear hA hBb;dsimp only;go_wp2_with fail;have HX:=hid ((HD.out.setX HEW.out 0 (.int .i64 A)).setX HEW.out 1 (.int .i64 B));simp only[xM,xJ,xK]at HX;clear HD hlX fX0 fX1 hl x0 x1;generalize (w6.setCell ⟨X,0,none⟩ (.int .i64 A)).setCell ⟨X,1,none⟩ (.int .i64 B)=W7 at*
 refine(t_is W7 rb tb _ _ s3 HX.out.tk [42]).mono ?_;rintro e w8 ⟨rfl,hB8⟩;have HY:=hid (HX.out.below hB8);clear hB8 HX;unfold Rs.mul at HZ;cases hst:s3.is [42]with
 |false=>
  rw[hst,if_neg (by decide)]at HZ
  obtain rfl:Z=(⟨a,b,1,ps⟩,s3):=HZ.out
  have hlX:=HY.out.bx.lt
  have x0:=HY.out.xcell 0
  have x1:=HY.out.xcell 1
  have x2:=HY.out.xcell 2
  have x3:=HY.out.xcell 3
  simp only[xG,xH,xI]at x0 x1 x2 x3
  have hlR:=HY.out.br.lt
  have r0:=HY.out.br.cell 0
  have r1:=HY.out.br.cell 1
  have r2:=HY.out.br.cell 2
  have r3:=HY.out.br.cell 3
  simp only[xG,xH,xI]at r0 r1 r2 r3
  have g0:=HY.out.br.frozen 0
  have g1:=HY.out.br.frozen 1
  have g2:=HY.out.br.frozen 2
  have g3:=HY.out.br.frozen 3
  clear HZ hst
  dsimp only
  go_wp2_with fail
  obtain⟨W,hW⟩:∃W,W=(((w8.setCell ⟨R,0,none⟩ (.int .i64 A)).setCell ⟨R,1,none⟩ (.int .i64 B)).setCell ⟨R,2,none⟩ (.int .i64 1)).setCell ⟨R,3,none⟩ (.int .i64 ps):=⟨_,rfl⟩
  rw[← hW]
  obtain⟨hload,ht,hg⟩:=HY.out.ret _ _ _ _ W hW
  refine bodyPost_ret (results_cell1' rfl rfl hload) rfl ⟨?_,ht,hg⟩
  rw[← HAA.out,←HBB.out]
  rfl
 |true=>
  rw[hst,if_pos rfl]at HZ
  have HK:=hid (Rs.is_kind hst).1
  clear hst
  dsimp only
  go_wp2_with fail
  refine(t_skip w8 rb tb _ _ s3 HY.out.tk HK.out).mono ?_
  rintro e w9 ⟨rfl,ht,hg⟩
  have HV:=hid (HY.out.step ht hg)
  clear ht hg HY HK
  dsimp only
  go_wp2_with fail
  refine(t_number w9 rb tb _ _ _ HV.out.env.1 HV.out.tk 1 50).mono ?_
  rintro e w10 ⟨rfl,ht,hg⟩
  have HU:=hid (HV.out.step ht hg)
  clear ht hg HV
  dsimp only at HZ⊢
  generalize s3.skip.num 1 50=p4 at*
  obtain⟨m,s4⟩:=p4
  dsimp only at HU HZ⊢
  obtain rfl:Z=(⟨a,b,m,ps⟩,s4):=HZ.out
  have hlX:=HU.out.bx.lt
  have x2:=HU.out.xcell 2
  simp only[xG,xH,xI]at x2
  have fX2:=HU.out.bx.frozen 2
  have HW:=hid (HU.out.setX HEW.out 2 (.int .i64 m))
  simp only[xM,xJ,xK]at HW
  have hlR:=HU.out.br.lt
  clear HZ
  go_upto_region 9 with fail
  clear HU x2 fX2 hlX hlR
  generalize w10.setCell ⟨X,2,none⟩ (.int .i64 m)=W11 at*
  have hlX:=HW.out.bx.lt
  have x0:=HW.out.xcell 0
  have x1:=HW.out.xcell 1
  have x2:=HW.out.xcell 2
  have x3:=HW.out.xcell 3
  simp only[xG,xH,xI]at x0 x1 x2 x3
  have hlR:=HW.out.br.lt
  have r0:=HW.out.br.cell 0
  have r1:=HW.out.br.cell 1
  have r2:=HW.out.br.cell 2
  have r3:=HW.out.br.cell 3
  simp only[xG,xH,xI]at r0 r1 r2 r3
  have g0:=HW.out.br.frozen 0
  have g1:=HW.out.br.frozen 1
  have g2:=HW.out.br.frozen 2
  have g3:=HW.out.br.frozen 3
  go_wp2_with fail
  obtain⟨W,hW⟩:∃W,W=(((W11.setCell ⟨R,0,none⟩ (.int .i64 A)).setCell ⟨R,1,none⟩ (.int .i64 B)).setCell ⟨R,2,none⟩ (.int .i64 m)).setCell ⟨R,3,none⟩ (.int .i64 ps):=⟨_,rfl⟩
  rw[← hW]
  obtain⟨hload,ht,hg⟩:=HW.out.ret _ _ _ _ W hW
  refine bodyPost_ret (results_cell1' rfl rfl hload) rfl ⟨?_,ht,hg⟩
  rw[← HAA.out,←HBB.out]
  rfl
end Go.Proofs.YtclgllmipcbagaaGreatDoor
