/-
  Parts of the proof: XKB XK12 XN16 XN22 XN23 XN25
-/
import Derived.Shelf.Strings.BuilderK
import Derived.Test.YtclgllmipcbagaaGreatDoorBk07
import Derived.Test.YtclgllmipcbagaaGreatDoorBk11
import Derived.Test.YtclgllmipcbagaaGreatDoorBk10
import Derived.Deep.AppendLies
import Derived.Shelf.Strings.OnBuilder
import Derived.Test.YtclgllmipcbagaaGreatDoorBk06
namespace Go.Proofs.YtclgllmipcbagaaGreatDoor
open Go.RowKit
set_option linter.unusedVariables false
set_option linter.unusedSimpArgs false
set_option maxRecDepth 100000
set_option maxHeartbeats 16000000
def renB:Go.Shelf.Ren:=⟨fun|166=>82|169=>85|170=>84|240=>131|276=>183|n=>n,fun|0=>0|3=>3|4=>4|5=>5|9=>9|20=>20|37=>122|70=>131|72=>133|75=>135|80=>116|127=>188|164=>247|n=>n,fun|n=>n⟩
theorem lay166:Go.Proofs.Lays.n166 Tryz.prog renB:=
 {mixed:=by kernel_rfl,
  f166:=by kernel_rfl,
  f240:=by kernel_rfl,
  f276:=by kernel_rfl,
  t0:=by kernel_rfl,
  a0:=fun _=>by kernel_rfl,
  z0:=fun _=>by kernel_rfl,
  v0:=fun _=>by kernel_rfl,
  t3:=by kernel_rfl,
  a3:=fun _=>by kernel_rfl,
  z3:=fun _=>by kernel_rfl,
  v3:=fun _=>by kernel_rfl,
  t4:=by kernel_rfl,
  a4:=fun _=>by kernel_rfl,
  z4:=fun _=>by kernel_rfl,
  v4:=fun _=>by kernel_rfl,
  t9:=by kernel_rfl,
  a9:=fun _=>by kernel_rfl,
  z9:=fun _=>by kernel_rfl,
  v9:=fun _=>by kernel_rfl,
  t20:=by kernel_rfl,
  a20:=fun _=>by kernel_rfl,
  z20:=fun _=>by kernel_rfl,
  v20:=fun _=>by kernel_rfl,
  t37:=by kernel_rfl,
  a37:=fun _=>by kernel_rfl,
  z37:=fun _=>by kernel_rfl,
  v37:=fun _=>by kernel_rfl,
  t70:=by kernel_rfl,
  a70:=fun _=>by kernel_rfl,
  z70:=fun _=>by kernel_rfl,
  v70:=fun _=>by kernel_rfl,
  t72:=by kernel_rfl,
  a72:=fun _=>by kernel_rfl,
  z72:=fun _=>by kernel_rfl,
  v72:=fun _=>by kernel_rfl,
  t75:=by kernel_rfl,
  a75:=fun _=>by kernel_rfl,
  z75:=fun _=>by kernel_rfl,
  v75:=fun _=>by kernel_rfl,
  t164:=by kernel_rfl,
  a164:=fun _=>by kernel_rfl,
  z164:=fun _=>by kernel_rfl,
  v164:=fun _=>by kernel_rfl}
theorem lay169:Go.Proofs.Lays.n169 Tryz.prog renB:=
 {mixed:=by kernel_rfl,
  f169:=by kernel_rfl,
  t0:=by kernel_rfl,
  a0:=fun _=>by kernel_rfl,
  z0:=fun _=>by kernel_rfl,
  v0:=fun _=>by kernel_rfl,
  t3:=by kernel_rfl,
  a3:=fun _=>by kernel_rfl,
  z3:=fun _=>by kernel_rfl,
  v3:=fun _=>by kernel_rfl,
  t9:=by kernel_rfl,
  a9:=fun _=>by kernel_rfl,
  z9:=fun _=>by kernel_rfl,
  v9:=fun _=>by kernel_rfl,
  t37:=by kernel_rfl,
  a37:=fun _=>by kernel_rfl,
  z37:=fun _=>by kernel_rfl,
  v37:=fun _=>by kernel_rfl,
  t70:=by kernel_rfl,
  a70:=fun _=>by kernel_rfl,
  z70:=fun _=>by kernel_rfl,
  v70:=fun _=>by kernel_rfl,
  t72:=by kernel_rfl,
  a72:=fun _=>by kernel_rfl,
  z72:=fun _=>by kernel_rfl,
  v72:=fun _=>by kernel_rfl,
  t127:=by kernel_rfl,
  a127:=fun _=>by kernel_rfl,
  z127:=fun _=>by kernel_rfl,
  v127:=fun _=>by kernel_rfl}
theorem layX:Go.Proofs.Builder.Extra Tryz.prog renB:=
 {sizeBuilder:=by kernel_rfl,liesBuilder:=by kernel_rfl,t5:=by kernel_rfl,a5:=fun _=>by kernel_rfl,z5:=fun _=>by kernel_rfl,v5:=fun _=>by kernel_rfl,infoByte:=by kernel_rfl,cellsByte:=by kernel_rfl,sizeByte:=by kernel_rfl,neB5:=by decide}
def Bld (B b:Nat)(l:List UInt8)(w:World):Prop:=Lib.IsBuilderF 133 5 B b (Lib.byteCells l) w∧B≤w.heap.size
def Oth (b:Nat)(w w':World):Prop:=Lib.OthersKept 5 (some b) w w'
theorem Oth.blk {b:Nat}{w w':World}(h:Oth b w w'){k:Nat}{cs:Array Value}{T:TypeId}(hb:Blk w k cs T)(hk:k≠b)(hT:T≠5):Blk w' k cs T:=by
 unfold Blk at*
 exact h k _ hb (by simpa using hk) (fun c fz e=>hT (by injection e))
theorem Bld.below {B b:Nat}{l:List UInt8}{w w':World}(h:Bld B b l w)(hB:Below w.heap.size w w'):Bld B b l w':=by
 have one:∀p,Lib.BuilderAtF 133 5 B b p (Lib.byteCells l) w→Lib.BuilderAtF 133 5 B b p (Lib.byteCells l) w':=fun p ⟨h1,v,h2,h3,h4⟩=>
  ⟨h1,v,by rw[hB.block b (Array.getElem?_eq_some_iff.1 h2).1];exact h2,h3.kept (Below.toGrown hB none) (by cases hv:v.ownBlock<;>simp),h4⟩
 exact⟨h.1.elim (fun h=> .inl (one _ h)) (fun h=> .inr (one _ h)),Nat.le_trans h.2 hB.size⟩
theorem Bld.fresh (w:World):Bld w.heap.size w.heap.size [] (w.alloc (.cells #[.pointer none,.slice none 0 0] 133)):=
 ⟨Lib.IsBuilderF.of (Lib.fresh_isBuilder _ _ w),by simp⟩
theorem Bld.lt {B b:Nat}{l:List UInt8}{w:World}(h:Bld B b l w):b<w.heap.size:=h.1.elim (fun h=>h.lt) (fun h=>h.lt)
theorem c_WriteString (B b:Nat)(l s:List UInt8)(w:World)(h:Bld B b l w)(hl:l.length≤100000000)(hs:s.length≤100000000):
 Calls Tryz.prog 82 #[.pointer (some ⟨b,0,none⟩),.string (str s)] w fun e w'=>∃v,e= .returned v∧Bld B b (l++s) w'∧Below B w w'∧Oth b w w':=by
 refine(Any.Builder_WriteString_k lay166 layX B b (Lib.byteCells l) (str s) w h.1 (by rw[str_size];simp[Lib.byteCells];omega) h.2).mono ?_;rintro e w' ⟨h1,h2,h3,h4⟩;refine⟨_,h1,⟨.inr ?_,Nat.le_trans h.2 h3.size⟩,h3,h4⟩;have:Lib.byteCells (l++s)=Lib.byteCells l++Lib.strCells (str s):=by simp[Lib.byteCells,Lib.strCells,str]
 rw[this];exact h2
theorem c_String (B b:Nat)(l:List UInt8)(w:World)(h:Bld B b l w):
 Calls Tryz.prog 85 #[.pointer (some ⟨b,0,none⟩)] w fun e w'=>e= .returned (.string (str l))∧Below B w w':=
 (Any.Builder_String_any_k lay169 layX B b l w h.1 h.2).mono fun _ _ ⟨h1,_,h3,_⟩=>⟨h1,h3⟩
theorem ToksR.at' {w:World}{v:Value}{l:List Tok}(h:ToksR w v l)(k:Nat)(hk:k<l.length):
 ∃b off cap,v= .slice (some ⟨b,off,none⟩) l.length cap∧b<w.heap.size∧w.cell? ⟨b,off+k*3,none⟩=some (.int .i64 (l[k]?.getD default).kind)∧
  w.cell? ⟨b,off+k*3+1,none⟩=some (.string (str (l[k]?.getD default).text))∧w.cell? ⟨b,off+k*3+2,none⟩=some (.int .i64 (l[k]?.getD default).pos):=by
 obtain⟨a,cap,rfl,_,_,_,hc⟩:=h;obtain⟨b,off,rfl,hb,hx⟩:=hc.tok (by omega);obtain⟨h1,h2,h3⟩:=hx k hk;exact⟨b,off,cap,rfl,hb,h1,h2,h3⟩
theorem below_grow (w:World)(k:Nat)(os:Array Obj):Below w.heap.size w (Sort.grow (w.drewN k) os):=by
 refine⟨rfl,rfl,rfl,?_,fun b hb=> ?_⟩
 ·show w.heap.size≤(w.heap++os).size
  simp
 ·show(w.heap++os)[b]? =w.heap[b]?
  rw[Array.getElem?_append_left hb]
theorem c_Itoa (n:Int)(h0: -9223372036854775808≤n)(h1:n≤9223372036854775807)(w:World)(hE:Env w):
 Calls Tryz.prog 83 #[.int .i64 n] w fun e w'=>e= .returned (.string (str (Lib.itoa n)))∧Below w.heap.size w w':=by
 refine(Any.strconv_Itoa nlayM171 n h0 h1 w hE.tab).mono ?_;rintro e w' ⟨rfl,k,os,rfl⟩;exact⟨rfl,below_grow w k os⟩
theorem itoa_small (i:Nat):Lib.itoa (i:Int)=Lib.decDigits i:=by
 unfold Lib.itoa;rw[if_neg (by omega)];rfl
theorem c_ItoaS (n:Int)(h0:0≤n)(h1:n<100)(w:World):
 Calls Tryz.prog 83 #[.int .i64 n] w fun e w'=>e= .returned (.string (str (Lib.itoa n)))∧w'=w:=by
 obtain⟨i,rfl⟩:∃i:Nat,n=i:=⟨n.toNat,by omega⟩;rw[itoa_small];exact Any.strconv_Itoa_small nlay171 i (by omega) w
def limV (p:Int×List UInt8):Value:= .tuple #[.string (str p.2),.int .i64 p.1]
theorem n_limited (t:List UInt8)(w:World):Calls Tryz.prog 167 #[.string (str t)] w fun e w'=>e= .returned (limV (limR t))∧w'=w:=by
 have hs:(str t).size=t.length:=str_size t;unfold limR limV;by_cases h:4096<t.length
 ·rw[if_pos h]
  have h':(4096:Int)<((str t).size:Int):=by omega
  go_enter Tryz.func167,Tryz.ntmps167;go_wp2_with fail;go_ret2;exact⟨rfl,rfl⟩
 ·rw[if_neg h]
  have h':¬(4096:Int)<((str t).size:Int):=by omega
  go_enter Tryz.func167,Tryz.ntmps167;go_wp2_with fail;go_ret2;exact⟨rfl,rfl⟩
def lowE (x:E):Prop:=0≤x.a∧x.a<100∧0≤x.b∧x.b<100∧1≤x.m∧x.m<100
theorem itoa_low {n:Int}(h0:0≤n)(h1:n<100):(Lib.itoa n).length≤2:=by
 obtain⟨i,rfl⟩:∃i:Nat,n=i:=⟨n.toNat,by omega⟩;rw[itoa_small,Lib.decDigits_length];by_cases h:i<10
 ·rw[Lib.nDigits_small h];omega
 ·rw[Lib.nDigits_big h,Lib.nDigits_small (by omega)];omega
theorem arcT_low (sign:UInt8){x:E}(h:lowE x):(arcT sign x).length≤9:=by
 obtain⟨h1,h2,h3,h4,h5,h6⟩:=h;have a:=itoa_low h1 h2;have b:=itoa_low h3 h4;have c:=itoa_low (n:=x.m) (by omega) h6;unfold arcT timesT;split<;>simp<;>omega
theorem str4 (a b:List UInt8)(x y:UInt8):str a++({data:= #[x]}:ByteArray)++str b++({data:= #[y]}:ByteArray)=str (a++x::(b++[y])):=by
 apply ByteArray.ext;simp[str]
theorem blk_keep {W w':World}{b B:Nat}{cs:Array Value}{t:TypeId}(h:Blk W b cs t)(hB:Below B W w')(hb:b<B):Blk w' b cs t:=by
 unfold Blk at*
 rw[hB.block b hb];exact h
theorem drop_arcs {sign:UInt8}{es:List E}{k:Nat}(h:k<es.length):arcsT sign (es.drop k)=arcT sign (es[k]?.getD default)++arcsT sign (es.drop (k+1)):=by
 rw[List.drop_eq_getElem_cons h,List.getElem?_eq_getElem h];rfl
theorem str4b (a b:List UInt8)(x y:UInt8):({data:= #[x]}:ByteArray)++str a++str [y]++str b=str (x::(a++y::b)):=by
 apply ByteArray.ext;simp[str]
theorem str2b (a:List UInt8)(x:UInt8):({data:= #[x]}:ByteArray)++str a=str (x::a):=by
 apply ByteArray.ext;simp[str]
theorem n_written (word:List UInt8)(sign:UInt8)(f:Nat)(n:Int)(es:List E)(v:Value)(w:World)(h0:0≤n)(h1:n<100)(hes:∀x∈es,lowE x)(hlen:es.length≤1000000)(hw:word.length≤100)(hL:LinesR w v es):
 Calls Tryz.prog 169 #[sortV word sign f,.int .i64 n,v] w fun e w'=>e= .returned (.string (str (word++32::(Lib.itoa n++58::arcsT sign es))))∧Below w.heap.size w w':=by
 obtain⟨Z,HZ⟩:∃Z,Hid (Z=word++32::(Lib.itoa n++58::arcsT sign es)):=⟨_,rfl⟩;rw[← HZ.out];have HL:=hid hL;have hn2:=itoa_low h0 h1;have hit:=hid (fun w=>c_ItoaS n h0 h1 w);have HES:=hid hes;obtain⟨a,cap,rfl,hcap,hcm,_⟩:=hL;clear hes;unfold sortV;go_enter Tryz.func169,Tryz.ntmps169;go_upto_region 2 with fail;have HSB:=hid ((Blk.new w #[.string (str word),.string (str [sign]),.func (.func f) #[] #[]] 223).alloc (.cells #[.pointer none,.slice none 0 0] 133));have HBD:=hid (Bld.fresh (w.alloc (.cells #[.string (str word),.string (str [sign]),.func (.func f) #[] #[]] 223)));have HB:=hid (((Below.refl w.heap.size w).alloc (Nat.le_refl _) (.cells #[.string (str word),.string (str [sign]),.func (.func f) #[] #[]] 223)).alloc (by simp) (.cells #[.pointer none,.slice none 0 0] 133))
 simp only[World.size_alloc]at HBD;generalize hbb:w.heap.size+1=bb at*
 generalize (w.alloc (.cells #[.string (str word),.string (str [sign]),.func (.func f) #[] #[]] 223)).alloc (.cells #[.pointer none,.slice none 0 0] 133)=W2 at*
 let S:World→Prop:=fun W'=>Hid (W'=W2.drew)
 (refine wp_region_text 7 [0,1,2,3,4,5,6] S (by kernel_rfl) (by kernel_rfl) (by intro _ _ d _ _ h;cases d<;>exact h) ?hS ?_;rotate_left;simp only[xA,xB,xC,xD,xE,xF]);case hS=>exact rfl
 have c0:W2.cell? ⟨w.heap.size,0,none⟩=some (.string (str word)):=(HSB.out.cell 0).trans rfl;have zw:=str_size word;have zn:=str_size (Lib.itoa n);(repeat ((refine' wpSeq_take rfl _ (by rfl) ?_ ?_;rotate_left;focus(intro w' hS;(try dsimp only at hS);obtain rfl:=hS.out;go_simp;(first|done|with_reducible rfl));(try go_frame));(try go_frame)));(refine' wpSeq_take rfl _ (by rfl) ?_ ?_;rotate_left;focus(intro w' hS;(try dsimp only at hS);obtain rfl:=hS.out;go_simp;rw[if_neg (by omega)]);(try go_frame));(repeat ((refine' wpSeq_take rfl _ (by rfl) ?_ ?_;rotate_left;focus(intro w' hS;(try dsimp only at hS);obtain rfl:=hS.out;go_simp;(first|done|with_reducible rfl));(try go_frame));(try go_frame)))
 (refine wpSeq_call rfl (by rfl) (fun K hK=> ?_);go_simp;refine((hit.out _)).mono ?_;rintro e w1 ⟨rfl,rfl⟩;refine hK _ _ (rfl) ?_;clear hK K;(try go_frame));(repeat ((refine' wpSeq_take rfl _ (by rfl) ?_ ?_;rotate_left;focus(intro w' hS;(try dsimp only at hS);obtain rfl:=hS.out;go_simp;(first|done|with_reducible rfl));(try go_frame));(try go_frame)));(refine' wpSeq_take rfl _ (by rfl) ?_ ?_;rotate_left;focus(intro w' hS;(try dsimp only at hS);obtain rfl:=hS.out;go_simp;rw[if_neg (by omega)]);(try go_frame));(refine' wpSeq_take rfl _ (by rfl) ?_ ?_;rotate_left;focus(intro w' hS;(try dsimp only at hS);obtain rfl:=hS.out;go_simp;rw[if_neg (by omega)]);(try go_frame))
 refine wpSeq_nil ?_;clear S;go_wp2_with fail;rw[str4];refine(c_WriteString bb bb [] (word++32::(Lib.itoa n++[58])) W2.drew (HBD.out.below (Below.drew (Below.refl _ _))) (by simp) (by simp;omega)).mono ?_;rintro e w3 ⟨rv,rfl,hbd,hbw,_⟩;have HBD3:=hid hbd;have HB3:Hid (Below bb W2 w3):=(Below.drew (Below.refl bb W2)).trans hbw;have hac:([]++(word++32::(Lib.itoa n++[58]))).length≤110:=by simp;omega
 have HA:Hid (([]++(word++32::(Lib.itoa n++[58])))++arcsT sign (es.drop 0)=Z):=by show _=_;rw[HZ.out];simp
 generalize []++(word++32::(Lib.itoa n++[58]))=acc0 at*
 clear hbd hbw c0 zn hit hn2;dsimp only;go_wp2_with fail;go_loopw [20] (fun i wr=>∃(k:Nat) (acc:List UInt8),k≤es.length∧i= .int .i64 k∧acc.length≤110+9*k∧Hid (Bld bb bb acc wr)∧Hid (acc++arcsT sign (es.drop k)=Z)∧Hid (Below bb W2 wr)) (fun i _=>es.length-(intOf i).toNat);case atStart=>exact⟨0,acc0,Nat.zero_le _,rfl,hac,HBD3,HA,HB3⟩
 case round=>
  clear HA HBD3 HB3 hac;obtain⟨k,acc,hk,rfl,hacc,HBD,HA,HBW⟩:=hrel;have hwb:w.heap.size≤bb:=by omega
  have HBR:=hid (HB.out.trans (HBW.out.mono hwb));have HSB1:=hid (blk_keep HSB.out HBW.out (by omega));by_cases hlt:k<es.length
  ·obtain⟨a',cap',ea,_,_,hc⟩:=HL.out.below HBR.out
   injection ea with ea1 _ ea3
   subst ea1 ea3;rcases hc with rfl|⟨b,off,rfl,hb,hc⟩
   ·simp at hlt
   obtain⟨c0,c1,c2,p,c3⟩:=hc k hlt;have hlt':(k:Int)<(es.length:Int):=by omega
   have hk0:(0:Int)≤(k:Int):=by omega
   have hlow:lowE (es[k]?.getD default):=HES.out _ (by rw[List.getElem?_eq_getElem hlt];exact List.getElem_mem hlt);have ha2:=HA.out;rw[drop_arcs hlt]at ha2;clear hc HA;generalize hx:es[k]?.getD default=x at*
   obtain⟨xa,xb,xm⟩:=x;dsimp only at c0 c1 c2;have HA:=hid ha2;have HLOW:=hid hlow;have h9:=hid (arcT_low sign hlow);clear hx ha2 hlow;go_upto_region 6 with fail;have HX:=hid (Blk.new wr #[.int .i64 xa,.int .i64 xb,.int .i64 xm,.int .i64 p] 293);have HW1:=hid (HBW.out.alloc (show bb≤wr.heap.size from HBD.out.2) (.cells #[.int .i64 xa,.int .i64 xb,.int .i64 xm,.int .i64 p] 293));have HBD1:=hid (HBD.out.below ((Below.refl _ _).alloc (Nat.le_refl _) (.cells #[.int .i64 xa,.int .i64 xb,.int .i64 xm,.int .i64 p] 293)));have HSB2:=hid (HSB1.out.alloc (.cells #[.int .i64 xa,.int .i64 xb,.int .i64 xm,.int .i64 p] 293))
   have hbX:bb<wr.heap.size:=HBD.out.lt;generalize hX:wr.heap.size=X at*
   generalize wr.alloc (.cells #[.int .i64 xa,.int .i64 xb,.int .i64 xm,.int .i64 p] 293)=W4 at*
   clear c0 c1 c2 c3 HBD HBW HSB1;have x0:W4.cell? ⟨X,0,none⟩=some (.int .i64 xa):=(HX.out.cell 0).trans rfl;have x1:W4.cell? ⟨X,1,none⟩=some (.int .i64 xb):=(HX.out.cell 1).trans rfl;have x2:W4.cell? ⟨X,2,none⟩=some (.int .i64 xm):=(HX.out.cell 2).trans rfl;have y1:W4.cell? ⟨w.heap.size,1,none⟩=some (.string (str [sign])):=(HSB2.out.cell 1).trans rfl;have hXl:=HX.out.lt;have hia:=hid (fun w=>c_ItoaS xa HLOW.out.1 HLOW.out.2.1 w);have hib:=hid (fun w=>c_ItoaS xb HLOW.out.2.2.1 HLOW.out.2.2.2.1 w);have la:(str (Lib.itoa xa)).size≤2:=by rw[str_size];exact itoa_low HLOW.out.1 HLOW.out.2.1
   have lb:(str (Lib.itoa xb)).size≤2:=by rw[str_size];exact itoa_low HLOW.out.2.2.1 HLOW.out.2.2.2.1
   have ls:(str [sign]).size=1:=str_size _;let S:World→Prop:=fun W'=>Hid (W'=W4.drew)
   (refine wp_region_text 13 [0,1,2,5,6,8,9,10,3,4,7,11,12] S (by kernel_rfl) (by kernel_rfl) (by intro _ _ d _ _ h;cases d<;>exact h) ?hS ?_;rotate_left;simp only[xA,xB,xC,xD,xE,xF]);case hS=>exact rfl
   (repeat ((refine' wpSeq_take rfl _ (by rfl) ?_ ?_;rotate_left;focus(intro w' hS;(try dsimp only at hS);obtain rfl:=hS.out;go_simp;(first|done|with_reducible rfl));(try go_frame));(try go_frame)));(refine wpSeq_call rfl (by rfl) (fun K hK=> ?_);go_simp;refine((hia.out _)).mono ?_;rintro e w1 ⟨rfl,rfl⟩;refine hK _ _ (rfl) ?_;clear hK K;(try go_frame));(refine' wpSeq_take rfl _ (by rfl) ?_ ?_;rotate_left;focus(intro w' hS;(try dsimp only at hS);obtain rfl:=hS.out;go_simp;rw[if_neg (by omega)]);(try go_frame));(refine' wpSeq_take rfl _ (by rfl) ?_ ?_;rotate_left;focus(intro w' hS;(try dsimp only at hS);obtain rfl:=hS.out;go_simp;rw[if_neg (by omega)]);(try go_frame))
   (refine wpSeq_call rfl (by rfl) (fun K hK=> ?_);go_simp;refine((hib.out _)).mono ?_;rintro e w1 ⟨rfl,rfl⟩;refine hK _ _ (rfl) ?_;clear hK K;(try go_frame));(refine' wpSeq_take rfl _ (by rfl) ?_ ?_;rotate_left;focus(intro w' hS;(try dsimp only at hS);obtain rfl:=hS.out;go_simp;rw[if_neg (by omega)]);(try go_frame));refine wpSeq_nil ?_;clear S;go_wp2_with fail;rw[str4b];have hl1:(Lib.itoa xa).length≤2:=itoa_low HLOW.out.1 HLOW.out.2.1;have hl2:(Lib.itoa xb).length≤2:=itoa_low HLOW.out.2.2.1 HLOW.out.2.2.2.1;refine(c_WriteString bb bb acc (32::(Lib.itoa xa++sign::Lib.itoa xb)) W4.drew (HBD1.out.below (Below.drew (Below.refl _ _))) (by omega) (by simp;omega)).mono ?_
   rintro e w5 ⟨rv5,rfl,hbd,hbw,hoth⟩;have HBD5:=hid hbd;have HW5:=hid (HW1.out.trans ((Below.drew (Below.refl bb W4)).trans hbw));have HX5:=hid (Oth.blk hoth (Blk.drew HX.out) (by omega) (by decide));have x2:w5.cell? ⟨X,2,none⟩=some (.int .i64 xm):=(HX5.out.cell 2).trans rfl;have hXl:=HX5.out.lt;have hlow:=HLOW.out;obtain⟨q1,q2,q3,q4,q5,q6⟩:=hlow;dsimp only at q5 q6;have hacc5:(acc++32::(Lib.itoa xa++sign::Lib.itoa xb)).length≤110+9*k+6:=by simp;omega
   clear hbd hbw hoth HX HW1 HBD1 HSB2 x0 x1 y1 hia hib la lb ls q1 q2 q3 q4;dsimp only;by_cases hm:1<xm
   ·have him:=hid (fun w=>c_ItoaS xm (by omega) q6 w)
    have lm:(str (Lib.itoa xm)).size≤2:=by rw[str_size];exact itoa_low (by omega) q6
    go_wp2_with fail;refine(him.out _).mono ?_;rintro e w6 ⟨rfl,rfl⟩;dsimp only;go_wp2_with fail;rw[str2b];have hl3:(Lib.itoa xm).length≤2:=itoa_low (by omega) q6;refine(c_WriteString bb bb _ (42::Lib.itoa xm) w6 HBD5.out (by omega) (by simp;omega)).mono ?_;rintro e w7 ⟨rv7,rfl,hbd,hbw,_⟩;have HBD7:=hid hbd;have HW7:=hid (HW5.out.trans hbw);clear hbd hbw;dsimp only;go_wp2_with fail;go_roundw
    case rel=>
     refine⟨k+1,acc++32::(Lib.itoa xa++sign::Lib.itoa xb)++42::Lib.itoa xm,by omega,by go_num,?_,HBD7,?_,HW7⟩
     ·simp at hacc5 ⊢;omega
     ·show _=_
      rw[← HA.out];unfold arcT timesT;dsimp only;rw[if_neg (show ¬xm=1 by omega)];simp
    case measure=>simp[intOf];omega
   ·go_wp2_with fail
    go_roundw
    case rel=>
     refine⟨k+1,acc++32::(Lib.itoa xa++sign::Lib.itoa xb),by omega,by go_num,by omega,HBD5,?_,HW5⟩;show _=_;rw[← HA.out];unfold arcT timesT;dsimp only;rw[if_pos (show xm=1 by omega)];simp
    case measure=>simp[intOf];omega
  ·obtain rfl:k=es.length:=by omega
   have hz:=HA.out;rw[List.drop_length]at hz;have hz2:acc=Z:=by rw[← hz];simp[arcsT]
   have hlt':¬(es.length:Int)<(es.length:Int):=by omega
   clear hz HA;subst hz2;go_wp2_with fail;refine(c_String bb bb acc wr HBD.out).mono ?_;rintro e w5 ⟨rfl,hB5⟩;dsimp only;go_wp2_with fail;go_ret;exact⟨rfl,HBR.out.trans (hB5.mono hwb)⟩
theorem four_news (w:World)(x y z u:Int)(e:TypeId)(j:Nat)(c:Value)(h:[Value.int .i64 x,Value.int .i64 y,Value.int .i64 z,Value.int .i64 u][j]? =some c):(w.alloc (.cells #[.int .i64 x,.int .i64 y,.int .i64 z,.int .i64 u] e)).cell? ((⟨w.heap.size,0,none⟩:Addr).add j)=some c:=by
 have e1:(⟨w.heap.size,0,none⟩:Addr).add j=⟨w.heap.size,j,none⟩:=by unfold Addr.add;split<;>simp_all
 rw[e1,World.cell?_alloc_new];simpa using h
theorem n_edges (g:G)(gv:Value)(w:World)(hg:GrR w gv g)(hes:g.es.length≤1000000):
 Calls Tryz.prog 170 #[gv] w fun e w'=>∃v,e= .returned v∧LinesR w' v g.es∧Below w.heap.size w w':=by
 obtain⟨i0,hi,hz0,hz1,hz2⟩:=info_parts info_line;obtain⟨ev,rfl,hE⟩:=hg;have HL:=hid hE;obtain⟨a,cap,rfl,hcap,hcm,_⟩:=hE;generalize g.es=es at*
 generalize g.n=n at*
 go_enter Tryz.func170,Tryz.ntmps170;go_wp2_with fail
 go_loopw [3,9] (fun u i wr=>∃k:Nat,k≤es.length∧i= .int .i64 k∧Hid (wr.ownsRow (w.heap.size+1) 293 4 u k (linesC (es.take k)))∧Hid (Below w.heap.size w wr∧w.heap.size+1≤wr.heap.size))
  (fun _ i _=>es.length-(intOf i).toNat)
 case atStart=>exact⟨0,Nat.zero_le _,rfl,World.ownsRow_nil _ _ _ _,⟨by go_grown,by simp⟩⟩
 case round=>
  obtain⟨k,hkn,rfl,HO,HBS⟩:=hrel;have HB:=hid HBS.out.1;have hbx:=HBS.out.2;clear HBS;by_cases hlt:k<es.length
  ·obtain⟨a',cap',ea,_,_,_,hc⟩:=HL.out.below HB.out
   injection ea with ea1 _ ea3
   subst ea1 ea3;obtain⟨b,off,rfl,hb,hc⟩:=hc.edge (by omega);obtain⟨c0,c1,c2⟩:=hc k hlt;have hst:=hid (take_step es k hlt);have hlt':(k:Int)<(es.length:Int):=by omega
   have hk0:(0:Int)≤(k:Int):=by omega
   clear hc;generalize hx:es[k]?.getD default=x at*
   obtain⟨xa,xb,xm⟩:=x;dsimp only at c0 c1 c2;clear hx;go_upto_region 5 with fail;have hs:=HB.out.size;have HX:=hid (Blk.new wr #[.int .i64 xa,.int .i64 xb,.int .i64 xm] 150);have HO1:=hid (HO.out.alloc (.cells #[.int .i64 xa,.int .i64 xb,.int .i64 xm] 150));have HB2:=hid (HB.out.alloc hs (.cells #[.int .i64 xa,.int .i64 xb,.int .i64 xm] 150));generalize hX:wr.heap.size=X at*
   generalize wr.alloc (.cells #[.int .i64 xa,.int .i64 xb,.int .i64 xm] 150)=W1 at*
   have x0:=HX.out.cell 0;have x1:=HX.out.cell 1;have x2:=HX.out.cell 2;simp only[xG,xH,xI]at x0 x1 x2;have hXl:=HX.out.lt;have hs1:=HB2.out.size;clear c0 c1 c2 HO HB;go_wp2_with (at_builtin;refine wpList_append_own _ rfl _ _ 226 rfl (w.heap.size+1) 293 i0 (.agg #[.int .i64 0,.int .i64 0,.int .i64 0,.int .i64 0]) 4 32 und_lines hi hz0 hz1 hz2 rfl (by decide) _ k _ rfl (HO1.out.alloc _) ⟨W1.heap.size,0,none⟩ 1 1 [.int .i64 xa,.int .i64 xb,.int .i64 xm,.int .i64 0] rfl rfl (fun j u h=>four_news W1 xa xb xm 0 _ j u h) (by simp[Value.oneCell']) (by unfold maxLen;omega) (by omega) (by simp;omega) ?_;intro v' w2 hown2 hgr2 _;have HO2:=hid hown2;have HG:=hid ((Below.toGrown ((Below.refl _ W1).alloc (Nat.le_refl _) (.cells #[.int .i64 xa,.int .i64 xb,.int .i64 xm,.int .i64 0] 293)) u3.ownBlock).trans hgr2);clear hown2 hgr2)
   go_roundw
   case rel=>
    refine⟨k+1,by omega,by go_num,?_,?_⟩
    ·show World.ownsRow _ _ _ _ _ _ _
     rw[hst.out,linesC_append];exact HO2.out
    ·refine⟨?_,by have:=HG.out.size;simp at *;omega⟩
     exact HB2.out.grown HG.out hs1 (fun q hq=>by have:=(HO1.out.lt q hq).1;omega)
   case measure=>simp[intOf];omega
  ·obtain rfl:k=es.length:=by omega
   rw[List.take_length]at HO;have hlt':¬(es.length:Int)<(es.length:Int):=by omega
   go_wp2_with fail;go_ret;exact⟨_,rfl,owns_linesR HO.out,HB.out⟩
theorem gok_low {g:G}(h:Gok g):∀x∈g.es,lowE x:=fun x hx=>by
 obtain⟨h1,h2,h3,h4,h5⟩:=h.mem hx;have:=h.n;exact⟨h1,by omega,by omega,by omega,h4,by omega⟩
theorem results_two {fn:Func}{t u:Tmp}(h:fn.results= #[.tmp t,.tmp u])(tmps:Array Value)(P:Program)(w:World):
 (results fn tmps).run P w= .ok (.tuple #[tmps.getD t undef,tmps.getD u undef]) w:=by
 simp[results,h]
theorem n_Graph (g:G)(gv:Value)(w:World)(hg:GrR w gv g):
 Calls Tryz.prog 107 #[gv] w fun e w'=>e= .returned (limV (graphR g))∧Below w.heap.size w w':=by
 obtain⟨Z,HZ⟩:∃Z,Hid (Z=graphR g):=⟨_,rfl⟩;rw[← HZ.out];have HG0:=hid hg;obtain⟨ev,rfl,hE⟩:=hg;obtain⟨a,cap,rfl,_⟩:=hE;have hgb:=hid (Blk.new w #[.int .i64 g.n,.slice a g.es.length cap] 28);have HB0:=hid ((Below.refl w.heap.size w).alloc (Nat.le_refl _) (.cells #[.int .i64 g.n,.slice a g.es.length cap] 28));have HG1:=hid (HG0.out.below HB0.out);go_enter Tryz.func107,Tryz.ntmps107;go_upto_region 1 with fail;generalize w.alloc (.cells #[.int .i64 g.n,.slice a g.es.length cap] 28)=W0 at*
 have c0:W0.cell? ⟨w.heap.size,0,none⟩=some (.int .i64 g.n):=(hgb.out.cell 0).trans rfl;have c1:W0.cell? ⟨w.heap.size,1,none⟩=some (.slice a g.es.length cap):=(hgb.out.cell 1).trans rfl;have hgl:=hgb.out.lt;go_wp2_with fail;refine(p_Check g _ W0 HG1.out).mono ?_;rintro e w1 ⟨rfl,hB1⟩;have HB1:=hid (up HB0.out hB1);have HG2:=hid (HG1.out.below hB1);have hgb1:=hid (hgb.out.below hB1);clear c0 c1 hgl hB1;dsimp only;by_cases hc:checkErr g=0
 ·have HZ2:Hid (Z=limR (wGraph++32::tabT 45 g)):=by have h:=HZ.out;unfold graphR at h;rw[if_neg (by omega)]at h;exact h
  have hn:=Gok.n hc;have hlow:=hid (gok_low hc);have hlen:=Gok.len hc;rw[hc];clear HZ hc HG0 HG1;go_wp2_with fail
  have hcl:Hid (∀ W',Below w1.heap.size w1 W'→W'.cell? ⟨w.heap.size,0,none⟩=some (.int .i64 g.n)∧W'.cell? ⟨w.heap.size,1,none⟩=some (.slice a g.es.length cap)∧w.heap.size<W'.heap.size):=fun W' hB=>
   ⟨((hgb1.out.below hB).cell 0).trans rfl,((hgb1.out.below hB).cell 1).trans rfl,(hgb1.out.below hB).lt⟩
  have HW:=hid (fun (v:Value) (w:World) (hL:LinesR w v g.es)=>n_written wGraph 45 222 g.n g.es v w (by omega) (by omega) hlow.out (by omega) (by decide) hL);have hlm:=hid (fun w=>n_limited (wGraph++32::(Lib.itoa g.n++58::arcsT 45 g.es)) w);have HZ3:Hid (Z=limR (wGraph++32::(Lib.itoa g.n++58::arcsT 45 g.es))):=HZ2.out;clear HZ2;generalize limR (wGraph++32::(Lib.itoa g.n++58::arcsT 45 g.es))=z at*
  obtain⟨z1,z2⟩:=z;unfold limV at hlm;dsimp only at hlm;let S:World→Prop:=fun W'=>Hid (Below w1.heap.size w1 W')
  (refine wp_region_text 10 [1,2,3,0,4,5,6,7,8,9] S (by kernel_rfl) (by kernel_rfl) (by intro _ _ d _ _ h;cases d<;>exact h) ?hS ?_;rotate_left;simp only[xA,xB,xC,xD,xE,xF]);case hS=>exact Below.drew (Below.refl _ _)
  (repeat ((refine' wpSeq_take rfl _ (by rfl) ?_ ?_;rotate_left;focus(intro w' hS;(try dsimp only at hS);obtain⟨s0,s1,s2⟩:=hcl.out _ hS.out;go_simp;(first|done|with_reducible rfl));(try go_frame));(try go_frame)));(refine wpSeq_call rfl (by rfl) (fun K hK=> ?_);go_simp;refine((n_graphs _)).mono ?_;rintro e w2 ⟨rfl,hB2⟩;refine hK _ _ (((Below.drew (Below.refl w1.heap.size w1)).trans hB2)) ?_;clear hK K;(try go_frame));have HB2:=hid ((Below.drew (Below.refl w1.heap.size w1)).trans hB2);clear hB2;(refine wpSeq_call rfl (by rfl) (fun K hK=> ?_);go_simp;refine((n_edges g _ w2 (HG2.out.below HB2.out) (by omega))).mono ?_;rintro e w3 ⟨lv,rfl,hlr,hB3⟩;refine hK _ _ ((up HB2.out hB3)) ?_;clear hK K;(try go_frame))
  have HB3:=hid (up HB2.out hB3);clear hB3;(refine wpSeq_call rfl (by rfl) (fun K hK=> ?_);go_simp;refine((HW.out lv w3 hlr)).mono ?_;rintro e w4 ⟨rfl,hB4⟩;refine hK _ _ ((up HB3.out hB4)) ?_;clear hK K;(try go_frame));have HB4:=hid (up HB3.out hB4);clear hB4;(refine wpSeq_call rfl (by rfl) (fun K hK=> ?_);go_simp;refine((hlm.out w4)).mono ?_;rintro e w5 ⟨rfl,rfl⟩;refine hK _ _ (HB4.out) ?_;clear hK K;(try go_frame));(repeat ((refine' wpSeq_take rfl _ (by rfl) ?_ ?_;rotate_left;focus(intro w' hS;(try dsimp only at hS);have s1:=hS;go_simp;(first|done|with_reducible rfl));(try go_frame));(try go_frame)))
  refine wpSeq_nil ?_;clear S;go_wp2_with fail;refine bodyPost_ret (results_two rfl _ _ _) rfl ?_;rw[HZ3.out];exact⟨rfl,up HB1.out HB4.out⟩
 ·have HZ2:Hid (Z=(checkErr g,[])):=by have h:=HZ.out;unfold graphR at h;rw[if_pos hc]at h;exact h
  have hc1:(checkErr g !=0)=true:=by simpa using hc
  clear HZ hc;go_wp2_with fail;refine bodyPost_ret (results_two rfl _ _ _) rfl ?_;rw[HZ2.out];exact⟨rfl,HB1.out⟩
theorem nDig_le:∀(k n:Nat),n<10^k→1≤k→Lib.nDigits n≤k
 |0,n,_,h=>by omega
 |1,n,h,_=>by rw[Lib.nDigits_small (by simpa using h)];exact Nat.le_refl _
 |k+2,n,h,_=>by
  by_cases h10:n<10
  ·rw[Lib.nDigits_small h10];omega
  ·rw[Lib.nDigits_big h10]
   have:=nDig_le (k+1) (n/10) (by rw[Nat.pow_succ]at h;omega) (by omega);omega
theorem itoa_chip {n:Int}(h:chipB n=true):(Lib.itoa n).length≤8∧ -1048576≤n∧n≤1048576:=by
 unfold chipB at h;simp only[Bool.and_eq_true,decide_eq_true_eq]at h;refine⟨?_,h.1,h.2⟩;unfold Lib.itoa;have hn:n.natAbs≤1048576:=by omega
 split
 ·rw[List.length_cons,Lib.decDigits_length]
  have:=nDig_le 7 n.natAbs (by omega) (by decide);omega
 ·rw[Lib.decDigits_length]
  have:=nDig_le 7 n.toNat (by omega) (by decide);omega
theorem str_add (a b:List UInt8):str a++(({data:= #[32]}:ByteArray)++str b)=str (a++32::b):=by
 apply ByteArray.ext;simp[str]
theorem str_spc (b:List UInt8):(({data:= #[32]}:ByteArray)++str b).size=b.length+1:=by
 rw[str2b,str_size];rfl
theorem intsT_snoc (l:List Int)(k:Nat)(h:k<l.length):intsT (l.take (k+1))=intsT (l.take k)++32::Lib.itoa (l[k]?.getD 0):=by
 rw[List.take_succ_eq_append_getElem h,List.getElem?_eq_getElem h];unfold intsT;rw[List.flatMap_append];simp
def lnE (x:Ln):E:=⟨x.a,x.b,x.m⟩
def lnCel (x:Ln):List Value:=[.int .i64 x.a,.int .i64 x.b,.int .i64 x.m,.int .i64 x.pl]
def lnsC (xs:List Ln):List Value:=xs.flatMap lnCel
def badL (es:List E)(x:Ln):Prop:=x.b<x.a∨0<es.length∧(x.a<(es[es.length-1]?.getD default).a∨x.a=(es[es.length-1]?.getD default).a∧x.b≤(es[es.length-1]?.getD default).b)
instance badL_dec (es:List E)(x:Ln):Decidable (badL es x):=by unfold badL;infer_instance
theorem exactG_end {n:Int}{es:List E}{s:Rs}(h:s.e≠0∨s.is [59]=true)(f:Nat):exactG n f es s=(es,s):=by
 cases f with
 |zero=>rfl
 |succ f=>unfold exactG;rw[if_pos h]
theorem exactG_step {n:Int}{es:List E}{s:Rs}(h:¬(s.e≠0∨s.is [59]=true))(f:Nat)(x:Ln)(s2:Rs)(hx:s.line 45 n=(x,s2)):
 exactG n (f+1) es s=if s2.e≠0 then(es++[lnE x],s2)else if badL es x then(es++[lnE x],s2.fail 9 x.pl)else exactG n f (es++[lnE x]) s2:=by
 conv=>lhs;unfold exactG
 rw[if_neg h];dsimp only;rw[hx];rfl
structure ExI (w0 w:World)(rb tb:Nat)(T:TypeId)(rest:List Value)(v:Value)(xs:List Ln)(s:Rs):Prop where
 own:w.ownsRow w0.heap.size 293 4 v xs.length (lnsC xs)
 tk:Tk w rb tb T rest s
 g:w0.grownBy w (some rb)
 env:EnvB w rb
 env0:Env w0
 hrb:rb<w0.heap.size
 htb:tb<w0.heap.size
section
variable {w0 w w' : World} {rb tb : Nat} {T : TypeId} {rest : List Value} {v v' : Value} {es es' : List Ln} {s s' : Rs}
theorem ExI.step (h:ExI w0 w rb tb T rest v es s)(ht:Tk w' rb tb T rest s')(hg:w.grownBy w' (some rb)):ExI w0 w' rb tb T rest v es s':=
 ⟨h.own.kept hg (by
   cases hv:v.ownBlock with
   |none=>exact .inl rfl
   |some k=>exact .inr (by have:=(h.own.lt k hv).1;have:=h.hrb;simp;omega)),ht,grown_trans h.g hg,h.env.grown hg,h.env0,h.hrb,h.htb⟩
theorem ExI.below (h:ExI w0 w rb tb T rest v es s)(hB:Below w.heap.size w w'):ExI w0 w' rb tb T rest v es s:=h.step (h.tk.below hB) (grown_of hB _)
theorem ExI.row (h:ExI w0 w rb tb T rest v es s)(ho:w'.ownsRow w0.heap.size 293 4 v' es'.length (lnsC es'))(hg:w.grownBy w' v.ownBlock):ExI w0 w' rb tb T rest v' es' s:=by
 have hb:∀k,v.ownBlock=some k→w0.heap.size≤k:=fun k hk=>(h.own.lt k hk).1;have hrb:=h.hrb;have htb:=h.htb;have he:=h.env0.lt;refine⟨ho,h.tk.grownR hg (fun e=>by have:=hb _ e;omega) (fun e=>by have:=hb _ e;omega),⟨h.g.os▸hg.os,h.g.tape▸hg.tape,h.g.output▸hg.output,Nat.le_trans h.g.size hg.size,fun k hk hne=> ?_⟩,?_,h.env0,hrb,htb⟩
 ·rw[hg.block k (Nat.lt_of_lt_of_le hk h.g.size) (fun e=>by have:=hb _ e.symm;omega)]
  exact h.g.block k hk hne
 ·refine⟨?_,h.env.2⟩
  cases hv:v.ownBlock with
  |none=>
   rw[hv]at hg
   exact h.env.1.below ⟨hg.os,hg.tape,hg.output,hg.size,fun k hk=>hg.block k hk (by simp)⟩
  |some k=>
   rw[hv]at hg
   have:=hb k hv
   exact h.env.1.grown hg (fun _ _=>by omega) (fun g' hg'=>by rw[pow_g]at hg';have:=Option.some.inj hg';omega)
end
def LB (c:Nat)(ls:List (List Int)):Prop:=ls.length≤c∧∀j:Nat,(ls[j]?.getD []).length≤c
theorem LB.put {c:Nat}{ls:List (List Int)}(h:LB c ls)(j:Nat)(x:Int):LB (c+1) (ls.set j ((ls[j]?.getD [])++[x])):=by
 refine⟨by rw[List.length_set];have:=h.1;omega,fun k=> ?_⟩;rw[List.getElem?_set];split
 ·split
  ·have:=h.2 j;simp;omega
  ·simp
 ·have:=h.2 k;omega
theorem LB.push {c:Nat}{ls:List (List Int)}(h:LB c ls):LB (c+1) (ls++[[]]):=by
 refine⟨by rw[List.length_append];have:=h.1;simp;omega,fun k=> ?_⟩;by_cases hk:k<ls.length
 ·rw[List.getElem?_append_left hk];have:=h.2 k;omega
 ·rw[List.getElem?_append_right (by omega)]
  have e:([[]]:List (List Int))[k-ls.length]?.getD []=[]:=by cases (k-ls.length)<;>rfl
  rw[e];simp
def LsR (w:World)(v:Value)(ls:List (List Int)):Prop:=
 ∃a cap vs,v= .slice a ls.length cap∧ls.length≤cap∧cap≤9223372036854775807∧ls.length*24≤140737488355328∧CellsAt w a vs∧vs.length=ls.length∧∀i,i<ls.length→IntsR w (vs[i]?.getD undef) (ls[i]?.getD [])
theorem LsR.below {w w':World}{v:Value}{ls:List (List Int)}(h:LsR w v ls)(hb:Below w.heap.size w w'):LsR w' v ls:=by
 obtain⟨a,cap,vs,h1,h2,h3,h4,h5,h6,h7⟩:=h;exact⟨a,cap,vs,h1,h2,h3,h4,h5.below hb,h6,fun i hi=>(h7 i hi).below hb⟩
theorem own_type {w:World}{base:Nat}{e:TypeId}{size:Nat}{v:Value}{n k:Nat}{xs:List Value}(h:w.ownsRow base e size v n xs)(hk:v.ownBlock=some k):∃cur,w.heap[k]? =some (.cells cur e):=by
 rcases h.2 with ⟨rfl,_⟩|⟨g,cap,cur,rfl,h2,h3,_⟩
 ·cases hk
 ·obtain rfl:g=k:=by simpa[Value.ownBlock]using hk
  exact⟨cur,h3⟩
theorem own_differ {w:World}{base base':Nat}{e e':TypeId}{size size':Nat}{v v':Value}{n n':Nat}{xs xs':List Value}(h:w.ownsRow base e size v n xs)(h':w.ownsRow base' e' size' v' n' xs')(hne:e≠e'){k:Nat}(hk:v.ownBlock=some k):v'.ownBlock≠some k:=by
 intro hk';obtain⟨c,hc⟩:=own_type h hk;obtain⟨c',hc'⟩:=own_type h' hk';rw[hc]at hc';injection hc' with hc'
 injection hc' with _ q
 exact hne q
structure LsI (w0 w:World)(rb tb:Nat)(T:TypeId)(rest:List Value)(v:Value)(vs:List Value)(ls:List (List Int))(s:Rs):Prop where
 own:w.ownsRow w0.heap.size 29 1 v ls.length vs
 rows:∀i,i<ls.length→w.ownsRow w0.heap.size 3 1 (vs[i]?.getD undef) (ls[i]?.getD []).length ((ls[i]?.getD []).map (Value.int .i64))
 dis:∀i j k,i<ls.length→j<ls.length→(vs[i]?.getD undef).ownBlock=some k→(vs[j]?.getD undef).ownBlock=some k→i=j
 tk:Tk w rb tb T rest s
 g:w0.grownBy w (some rb)
 env:EnvB w rb
 env0:Env w0
 hrb:rb<w0.heap.size
 htb:tb<w0.heap.size
section
variable {w0 w w' : World} {rb tb : Nat} {T : TypeId} {rest : List Value} {v v' : Value} {vs : List Value} {ls : List (List Int)} {s s' : Rs}
theorem LsI.len (h:LsI w0 w rb tb T rest v vs ls s):vs.length=ls.length:=by have:=h.own.1;omega
theorem LsI.dio (h:LsI w0 w rb tb T rest v vs ls s){i k:Nat}(hi:i<ls.length)(hk:(vs[i]?.getD undef).ownBlock=some k):v.ownBlock≠some k:=own_differ (h.rows i hi) h.own (by decide) hk
theorem LsI.step (h:LsI w0 w rb tb T rest v vs ls s)(ht:Tk w' rb tb T rest s')(hg:w.grownBy w' (some rb)):LsI w0 w' rb tb T rest v vs ls s':=by
 have hrb:=h.hrb;refine⟨h.own.kept hg ?_,fun i hi=>(h.rows i hi).kept hg ?_,h.dis,ht,grown_trans h.g hg,h.env.grown hg,h.env0,h.hrb,h.htb⟩
 ·cases hv:v.ownBlock with
  |none=>exact .inl rfl
  |some k=>exact .inr (by have:=(h.own.lt k hv).1;simp;omega)
 ·cases hv:(vs[i]?.getD undef).ownBlock with
  |none=>exact .inl rfl
  |some k=>exact .inr (by have:=((h.rows i hi).lt k hv).1;simp;omega)
theorem LsI.below (h:LsI w0 w rb tb T rest v vs ls s)(hB:Below w.heap.size w w'):LsI w0 w' rb tb T rest v vs ls s:=h.step (h.tk.below hB) (grown_of hB _)
theorem kept_env {w0 w w':World}{rb:Nat}{r:Option Nat}(h:EnvB w rb)(h0:Env w0)(hg:w.grownBy w' r)(hr:∀k,r=some k→w0.heap.size≤k):EnvB w' rb:=by
 have he:=h0.lt;refine⟨?_,h.2⟩;cases hv:r with
 |none=>
  rw[hv]at hg
  exact h.1.below ⟨hg.os,hg.tape,hg.output,hg.size,fun k hk=>hg.block k hk (by simp)⟩
 |some k=>
  rw[hv]at hg
  have:=hr k hv
  exact h.1.grown hg (fun _ _=>by omega) (fun g' hg'=>by rw[pow_g]at hg';have:=Option.some.inj hg';omega)
theorem kept_g {w0 w w':World}{rb:Nat}{r:Option Nat}(h:w0.grownBy w (some rb))(hg:w.grownBy w' r)(hr:∀k,r=some k→w0.heap.size≤k):w0.grownBy w' (some rb):=by
 refine⟨h.os▸hg.os,h.tape▸hg.tape,h.output▸hg.output,Nat.le_trans h.size hg.size,fun k hk hne=> ?_⟩;rw[hg.block k (Nat.lt_of_lt_of_le hk h.size) (fun e=>by have:=hr _ e.symm;omega)];exact h.block k hk hne
theorem kept_row {w w':World}{r:Option Nat}{base:Nat}{e:TypeId}{size:Nat}{u:Value}{n:Nat}{xs:List Value}(h:w.ownsRow base e size u n xs)(hg:w.grownBy w' r)(hne:∀k,u.ownBlock=some k→r≠some k):w'.ownsRow base e size u n xs:=by
 refine h.kept hg ?_;cases hv:u.ownBlock with
 |none=>exact .inl rfl
 |some k=>exact .inr (fun e=>hne k hv e.symm)
theorem LsI.app {g cap i bn cn:Nat}{l':List Int}(h:LsI w0 w rb tb T rest (.slice (some ⟨g,0,none⟩) ls.length cap) vs ls s)(hi:i<ls.length)
 (ho:w'.ownsRow w0.heap.size 3 1 (.slice (some ⟨bn,0,none⟩) l'.length cn) l'.length (l'.map (Value.int .i64))) (hg:w.grownBy w' (vs[i]?.getD undef).ownBlock) (hat:(vs[i]?.getD undef).ownBlock=some bn∨w.heap.size≤bn):
 LsI w0 (w'.setCell ⟨g,i,none⟩ (.slice (some ⟨bn,0,none⟩) l'.length cn)) rb tb T rest (.slice (some ⟨g,0,none⟩) ls.length cap) (vs.set i (.slice (some ⟨bn,0,none⟩) l'.length cn)) (ls.set i l') s:=by
 have hlen:=h.len;have hrb:=h.hrb;have htb:=h.htb;have hb:∀k,(vs[i]?.getD undef).ownBlock=some k→w0.heap.size≤k:=fun k hk=>((h.rows i hi).lt k hk).1;have hgb:=(h.own.lt g rfl).1;have hgl:=(h.own.lt g rfl).2;have ho1:w'.ownsRow w0.heap.size 29 1 (.slice (some ⟨g,0,none⟩) ls.length cap) ls.length vs:=kept_row h.own hg (fun k hk e=>h.dio hi e hk);have hgs:w'.grownBy (w'.setCell ⟨g,i,none⟩ (.slice (some ⟨bn,0,none⟩) l'.length cn)) (some g):=grown_set _ _ _ _;have hgk:∀k,some g=some k→w0.heap.size≤k:=fun k e=>by cases e;exact hgb
 have hgi:(vs.set i (.slice (some ⟨bn,0,none⟩) l'.length cn))[i]?.getD undef= .slice (some ⟨bn,0,none⟩) l'.length cn:=by simp[show i<vs.length by omega]
 have hgj:∀j,j≠i→(vs.set i (.slice (some ⟨bn,0,none⟩) l'.length cn))[j]?.getD undef=vs[j]?.getD undef:=fun j hj=>by rw[List.getElem?_set_ne (Ne.symm hj)]
 refine⟨?_,fun j hj=> ?_,fun j k b hj hk h1 h2=> ?_,?_,kept_g (kept_g h.g hg hb) hgs hgk,kept_env (kept_env h.env h.env0 hg hb) h.env0 hgs hgk,h.env0,hrb,htb⟩
 ·rw[List.length_set]
  exact(ho1.stored i _).1
 ·rw[List.length_set]at hj
  by_cases hji:j=i
  ·subst hji
   rw[hgi];have e2:(ls.set j l')[j]?.getD []=l':=by simp[hj]
   rw[e2];exact kept_row ho hgs (fun k hk e=>own_differ ho ho1 (by decide) hk e)
  ·rw[hgj j hji,List.getElem?_set_ne (Ne.symm hji)]
   refine kept_row (kept_row (h.rows j hj) hg (fun k hk e=>hji (h.dis j i k hj hi hk e))) hgs (fun k hk e=> ?_);exact h.dio hj hk e
 ·rw[List.length_set]at hj hk
  by_cases hji:j=i
  ·by_cases hki:k=i
   ·omega
   ·exfalso
    subst hji;rw[hgi]at h1;rw[hgj k hki]at h2;obtain rfl:bn=b:=by simpa[Value.ownBlock]using h1
    rcases hat with hat|hat
    ·exact hki (h.dis k j bn hk hj h2 hat)
    ·have:=((h.rows k hk).lt bn h2).2;omega
  ·by_cases hki:k=i
   ·exfalso
    subst hki;rw[hgi]at h2;rw[hgj j hji]at h1;obtain rfl:bn=b:=by simpa[Value.ownBlock]using h2
    rcases hat with hat|hat
    ·exact hji (h.dis j k bn hj hk h1 hat)
    ·have:=((h.rows j hj).lt bn h1).2;omega
   ·rw[hgj j hji]at h1
    rw[hgj k hki]at h2;exact h.dis j k b hj hk h1 h2
 ·have t1:=h.tk.grownR hg (fun e=>by have:=hb _ e;omega) (fun e=>by have:=hb _ e;omega)
  exact t1.setO (by omega) (by omega) i _
theorem LsI.push (h:LsI w0 w rb tb T rest v vs ls s)(ho:w'.ownsRow w0.heap.size 29 1 v' (ls.length+1) (vs++[.slice none 0 0]))(hg:w.grownBy w' v.ownBlock):LsI w0 w' rb tb T rest v' (vs++[.slice none 0 0]) (ls++[[]]) s:=by
 have hlen:=h.len;have hrb:=h.hrb;have htb:=h.htb;have hb:∀k,v.ownBlock=some k→w0.heap.size≤k:=fun k hk=>(h.own.lt k hk).1;have hgj:∀j,j<ls.length→(vs++[Value.slice none 0 0])[j]?.getD undef=vs[j]?.getD undef:=fun j hj=>by rw[List.getElem?_append_left (by omega)]
 have hgn:∀j,¬j<ls.length→j<(ls++[[]]).length→(vs++[Value.slice none 0 0])[j]?.getD undef= .slice none 0 0:=fun j hj hj2=>by
  obtain rfl:j=ls.length:=by simp at hj2;omega
  rw[← hlen,List.getElem?_append_right (Nat.le_refl _),Nat.sub_self];rfl
 refine⟨by rw[List.length_append];exact ho,fun j hj=> ?_,fun j k b hj hk h1 h2=> ?_,h.tk.grownR hg (fun e=>by have:=hb _ e;omega) (fun e=>by have:=hb _ e;omega),kept_g h.g hg hb,kept_env h.env h.env0 hg hb,h.env0,hrb,htb⟩
 ·by_cases hjl:j<ls.length
  ·rw[hgj j hjl,List.getElem?_append_left hjl]
   exact kept_row (h.rows j hjl) hg (fun k hk e=>h.dio hjl hk e)
  ·rw[hgn j hjl hj]
   have e:(ls++[[]])[j]?.getD []=[]:=by
    obtain rfl:j=ls.length:=by simp at hj;omega
    rw[List.getElem?_append_right (Nat.le_refl _),Nat.sub_self];rfl
   rw[e];exact World.ownsRow_nil _ _ _ _
 ·by_cases hjl:j<ls.length
  ·by_cases hkl:k<ls.length
   ·rw[hgj j hjl]at h1
    rw[hgj k hkl]at h2;exact h.dis j k b hjl hkl h1 h2
   ·rw[hgn k hkl hk]at h2;cases h2
  ·rw[hgn j hjl hj]at h1;cases h1
end
def LsO (w:World)(base:Nat)(v:Value)(ls:List (List Int)):Prop:=
 ∃vs,w.ownsRow base 29 1 v ls.length vs∧(∀ i,i<ls.length→w.ownsRow base 3 1 (vs[i]?.getD undef) (ls[i]?.getD []).length ((ls[i]?.getD []).map (Value.int .i64)))∧LB 1000000 ls
theorem LsO.kept {w w':World}{base k:Nat}{v:Value}{ls:List (List Int)}(h:LsO w base v ls)(hg:w.grownBy w' (some k))(hk:k<base):LsO w' base v ls:=by
 obtain⟨vs,h1,h2,h3⟩:=h;refine⟨vs,kept_row h1 hg (fun j hj e=> ?_),fun i hi=>kept_row (h2 i hi) hg (fun j hj e=> ?_),h3⟩
 ·have:=(h1.lt j hj).1;simp at e;omega
 ·have:=((h2 i hi).lt j hj).1;simp at e;omega
theorem LsO.below {w w':World}{base:Nat}{v:Value}{ls:List (List Int)}(h:LsO w base v ls)(hB:Below w.heap.size w w'):LsO w' base v ls:=by
 obtain⟨vs,h1,h2,h3⟩:=h;exact⟨vs,owns_below h1 hB,fun i hi=>owns_below (h2 i hi) hB,h3⟩
theorem LsO.read {w:World}{base:Nat}{v:Value}{ls:List (List Int)}(h:LsO w base v ls):LsR w v ls:=by
 obtain⟨vs,h1,h2,h3⟩:=h;obtain⟨a,cap,e1,e2,e3,e4⟩:=owns_at h1;refine⟨a,cap,vs,e1,e2,e3,by have:=h3.1;omega,e4,by have:=h1.1;omega,fun i hi=>owns_ints (h2 i hi) (by have:=h3.2 i;omega)⟩
theorem LB.mono {c d:Nat}{ls:List (List Int)}(h:LB c ls)(hd:c≤d):LB d ls:=⟨Nat.le_trans h.1 hd,fun j=>Nat.le_trans (h.2 j) hd⟩
def EdOk (n:Int)(es:List E):Prop:=∀k,k<es.length→edgeErr ⟨n,es⟩ k=0
theorem EdOk.push {n:Int}{es:List E}(h:EdOk n es){x:Ln}(ha:0≤x.a∧x.a≤n-1)(hb:0≤x.b∧x.b≤n-1)(hm:1≤x.m∧x.m≤50)(hx:¬badL es x):EdOk n (es++[lnE x]):=by
 intro k hk;by_cases hke:k<es.length
 ·have h1:=h k hke
  unfold edgeErr at h1⊢;dsimp only at h1⊢;rw[List.getElem?_append_left hke,List.getElem?_append_left (by omega)];exact h1
 ·obtain rfl:k=es.length:=by simp at hk;omega
  have e0:((es++[lnE x])[es.length]?.getD default)=lnE x:=by rw[List.getElem?_append_right (Nat.le_refl _),Nat.sub_self];rfl
  unfold edgeErr;dsimp only;rw[e0];unfold badL at hx;by_cases h0:0<es.length
  ·rw[List.getElem?_append_left (by omega)]
   rw[if_neg,if_neg,if_neg]
   ·show ¬(0<es.length∧_);intro hh;exact hx (.inr hh)
   ·intro hh;exact hx (.inl hh)
   ·unfold vtx lnE
    simp;omega
  ·rw[if_neg,if_neg,if_neg]
   ·intro hh;exact h0 hh.1
   ·intro hh;exact hx (.inl hh)
   ·unfold vtx lnE
    simp;omega
def RibR (w:World)(v:Value)(p:G×List (List Int)):Prop:=∃ev lv,v= .agg #[.int .i64 p.1.n,ev,lv]∧EdgesR w ev p.1.es∧LsR w lv p.2
theorem RibR.below {w w':World}{v:Value}{p:G×List (List Int)}(h:RibR w v p)(hb:Below w.heap.size w w'):RibR w' v p:=by
 obtain⟨gv,lv,h1,h2,h3⟩:=h;exact⟨gv,lv,h1,h2.below hb,h3.below hb⟩
def renJ:Go.Shelf.Ren:=⟨fun|156=>115|165=>177|166=>82|169=>85|240=>131|241=>238|276=>183|277=>299|n=>n,fun|0=>0|3=>3|4=>4|5=>5|9=>9|20=>20|31=>103|37=>122|70=>131|72=>133|75=>135|76=>136|80=>116|127=>188|164=>247|n=>n,fun|n=>n⟩
theorem lay156:Go.Proofs.Lays.n156 Tryz.prog renJ:=
 {mixed:=by kernel_rfl,
  f156:=by kernel_rfl,
  f165:=by kernel_rfl,
  f166:=by kernel_rfl,
  f169:=by kernel_rfl,
  f240:=by kernel_rfl,
  f241:=by kernel_rfl,
  f276:=by kernel_rfl,
  f277:=by kernel_rfl,
  t0:=by kernel_rfl,
  a0:=fun _=>by kernel_rfl,
  z0:=fun _=>by kernel_rfl,
  v0:=fun _=>by kernel_rfl,
  t3:=by kernel_rfl,
  a3:=fun _=>by kernel_rfl,
  z3:=fun _=>by kernel_rfl,
  v3:=fun _=>by kernel_rfl,
  t4:=by kernel_rfl,
  a4:=fun _=>by kernel_rfl,
  z4:=fun _=>by kernel_rfl,
  v4:=fun _=>by kernel_rfl,
  t9:=by kernel_rfl,
  a9:=fun _=>by kernel_rfl,
  z9:=fun _=>by kernel_rfl,
  v9:=fun _=>by kernel_rfl,
  t20:=by kernel_rfl,
  a20:=fun _=>by kernel_rfl,
  z20:=fun _=>by kernel_rfl,
  v20:=fun _=>by kernel_rfl,
  t31:=by kernel_rfl,
  a31:=fun _=>by kernel_rfl,
  z31:=fun _=>by kernel_rfl,
  v31:=fun _=>by kernel_rfl,
  t37:=by kernel_rfl,
  a37:=fun _=>by kernel_rfl,
  z37:=fun _=>by kernel_rfl,
  v37:=fun _=>by kernel_rfl,
  t70:=by kernel_rfl,
  a70:=fun _=>by kernel_rfl,
  z70:=fun _=>by kernel_rfl,
  v70:=fun _=>by kernel_rfl,
  t72:=by kernel_rfl,
  a72:=fun _=>by kernel_rfl,
  z72:=fun _=>by kernel_rfl,
  v72:=fun _=>by kernel_rfl,
  t75:=by kernel_rfl,
  a75:=fun _=>by kernel_rfl,
  z75:=fun _=>by kernel_rfl,
  v75:=fun _=>by kernel_rfl,
  t76:=by kernel_rfl,
  a76:=fun _=>by kernel_rfl,
  z76:=fun _=>by kernel_rfl,
  v76:=fun _=>by kernel_rfl,
  t127:=by kernel_rfl,
  a127:=fun _=>by kernel_rfl,
  z127:=fun _=>by kernel_rfl,
  v127:=fun _=>by kernel_rfl,
  t164:=by kernel_rfl,
  a164:=fun _=>by kernel_rfl,
  z164:=fun _=>by kernel_rfl,
  v164:=fun _=>by kernel_rfl}
theorem layXJ:Go.Proofs.Builder.Extra Tryz.prog renJ:=
 {sizeBuilder:=by kernel_rfl,liesBuilder:=by kernel_rfl,t5:=by kernel_rfl,a5:=fun _=>by kernel_rfl,z5:=fun _=>by kernel_rfl,v5:=fun _=>by kernel_rfl,infoByte:=by kernel_rfl,cellsByte:=by kernel_rfl,sizeByte:=by kernel_rfl,neB5:=by decide}
def joinT (sep:List UInt8):List (List UInt8)→List UInt8
 |[]=>[]
 |[x]=>x
 |x::y::r=>x++sep++joinT sep (y::r)
theorem joinT_lib (sep:List UInt8):∀l,Lib.join l sep=joinT sep l
 |[]=>by rw[Lib.join_nil];rfl
 |[x]=>by rw[Lib.join_one];rfl
 |x::y::r=>by
  rw[joinT,←joinT_lib sep (y::r),Lib.join_cons,Lib.join_cons];simp[Lib.joinTail]
theorem data_str (l:List (List UInt8)):(l.map str).map (fun b=>b.data.toList)=l:=by
 rw[List.map_map];conv=>rhs;rw[← List.map_id l]
 exact List.map_congr_left (fun x _=>rfl)
theorem c_Join (a:Option Addr)(cap:Nat)(l:List (List UInt8))(sep:List UInt8)(w:World)(hcap:l.length≤cap)(hn:l.length≤1000000)(hl:(joinT sep l).length≤1000000000)
 (hc:l=[]∨∃b off,a=some ⟨b,off,none⟩∧b<w.heap.size∧∀j,j<l.length→w.cell? ⟨b,off+j,none⟩=some (.string (str (l[j]?.getD [])))):
 Calls Tryz.prog 115 #[.slice a l.length cap,.string (str sep)] w fun e w'=>e= .returned (.string (str (joinT sep l)))∧Below w.heap.size w w':=by
 rcases hc with rfl|⟨b,off,rfl,hb,hc⟩
 ·refine(Any.strings_Join_none lay156 layXJ a cap (str sep) w).mono ?_
  rintro e w' ⟨rfl,rfl⟩;exact⟨rfl,Below.refl _ _⟩
 ·have hd:=data_str l
  have hlm:(l.map str).length=l.length:=List.length_map _;have h:=Any.strings_Join (P:=Tryz.prog) lay156 layXJ b off cap (l.map str) (str sep) w (fun j x hx=>by
   rw[List.getElem?_map]at hx;cases hj:l[j]? with
   |none=>rw[hj]at hx;cases hx
   |some y=>
    rw[hj]at hx
    simp at hx
    subst hx
    have hjl:j<l.length:=(List.getElem?_eq_some_iff.1 hj).1
    rw[hc j hjl,hj];rfl) hb (by omega) (by omega) (by rw[hd,str_data,joinT_lib];omega)
  rw[hlm]at h;refine h.mono ?_;rintro e w' ⟨rfl,hB⟩;refine⟨?_,hB⟩;rw[hd,str_data,joinT_lib];rfl
end Go.Proofs.YtclgllmipcbagaaGreatDoor
