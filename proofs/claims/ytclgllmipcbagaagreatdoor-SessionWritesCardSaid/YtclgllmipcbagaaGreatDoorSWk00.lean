/-
  Parts of the proof: XLib XSpec XSpec2 XK9 XK2 XK4 XN0 XN2 XN3 XN7 XN16 XN23 XN25 XN28 XSo
-/
import Derived.Test.YtclgllmipcbagaaGreatDoorBk00
import Derived.WalkKit
import Derived.WalkSpells
import Derived.WalkLawsBesides
import Derived.Handy
import Derived.Deep.RegionLaw
import Derived.Deep.QuietTactic
import Derived.BigQuiet
import Derived.Deep.LoopGhost
import Derived.Test.YtclgllmipcbagaaGreatDoorBk01
import Derived.Test.YtclgllmipcbagaaGreatDoorBk07
import Derived.Laws.EntriesVeiled
import Derived.Lib.ItoaNum
import Derived.Test.YtclgllmipcbagaaGreatDoorBk09
import Derived.Test.YtclgllmipcbagaaGreatDoorBk08
import Derived.Test.YtclgllmipcbagaaGreatDoorBk10
import Derived.Shelf.Spec.SlicesInsert
import Derived.Lib.AppendZerosOnto
import Derived.Laws.CopyRow
import Derived.Test.YtclgllmipcbagaaGreatDoorBk12
import Derived.Test.YtclgllmipcbagaaGreatDoorBk11
import Derived.Deep.AppendLies
import Derived.Shelf.Strings.OnBuilder
import Derived.Test.YtclgllmipcbagaaGreatDoorBk06
import Derived.Test.YtclgllmipcbagaaGreatDoorBk17
namespace Go.Proofs.YtclgllmipcbagaaGreatDoor
set_option linter.unusedVariables false
set_option linter.unusedSimpArgs false
set_option maxRecDepth 100000
set_option maxHeartbeats 16000000
open Go.RowKit
theorem firstNZ_step (f:Nat→Int)(i n:Nat)(h:i<n):firstNZ f i (n-i)=if f i≠0 then f i else firstNZ f (i+1) (n-(i+1)):=by
 obtain⟨k,rfl⟩:∃k,n=i+k+1:=⟨n-i-1,by omega⟩;rw[show i+k+1-i=k+1 by omega,show i+k+1-(i+1)=k by omega];rfl
theorem firstNZ_end (f:Nat→Int)(i n:Nat)(h:n≤i):firstNZ f i (n-i)=0:=by
 rw[Nat.sub_eq_zero_of_le h];rfl
theorem step_append_own {P:Program}{ops:Array Oper}{o:Oper}{a:Act}{w:World}{K:Act→World→Prop}{Q:Exit→Act→World→Prop}{F:Prop}
 (hgd:o.guard=none) (s x:Operand) (t:TypeId)
 (ho:o.op= .call {callee:= .builtin .append,args:= #[s,x],argTypes:= #[t,t]})
 (base:Nat) (e:TypeId) (i:TypeInfo) (z:Value) (size bytes:Nat) (ht:P.underlying t=some (.slice e)) (hi:P.info? e=some i) (hz:i.zero=some z)
 (hsize:i.size=size) (hby:i.bytes=bytes) (hzs:z.cells.size=size) (hsz:0<size)
 (v:Value) (n:Nat) (xs:List Value) (hs:a.eval s=v) (hown:w.ownsRow base e size v n xs)
 (ad:Addr) (m c:Nat) (news:List Value) (hx:a.eval x= .slice (some ad) m c) (hl:news.length=m*size) (hnews:∀j u,news[j]? =some u→w.cell? (ad.add j)=some u) (h1:∀u∈news,u.oneCell'=true)
 (h63:n+m≤maxLen) (hbytes:(n+m)*bytes≤140737488355328) (hbase:base≤w.heap.size)
 (h:∀v' w',w'.ownsRow base e size v' (n+m) (xs++news)→w.grownBy w' v.ownBlock→(v'= .slice none 0 0↔v= .slice none 0 0∧m=0)→K (a.put o.dst v') w'):
 if Region.wanted o (yielded ops a.tmps)=true then Oper.wp P o a w K Q else F:=by
 rw[if_pos (by simp[Region.wanted,hgd])];exact wp_append_own w s x t ho base e i z size bytes ht hi hz hsize hby hzs hsz v n xs hs hown ad m c news hx hl hnews h1 h63 hbytes hbase h
theorem grown_ad (w:World)(o:Obj)(row:Option Nat):w.grownBy (w.alloc o).drew row:=
 ⟨rfl,rfl,rfl,by simp,fun k hk _=>Below.heap_alloc w o k hk⟩
theorem ownsRow_ad {w:World}{base:Nat}{e:TypeId}{size:Nat}{v:Value}{n:Nat}{xs:List Value}(h:w.ownsRow base e size v n xs)(o:Obj):
 (w.alloc o).drew.ownsRow base e size v n xs:=h.kept (grown_ad w o none) (by cases hv:v.ownBlock<;>simp)
theorem news_ad (w:World)(c:List Value)(t:TypeId)(j:Nat)(u:Value)(h:c[j]? =some u):
 (w.alloc (.cells c.toArray t)).drew.cell? ((⟨w.heap.size,0,none⟩:Addr).add j)=some u:=by
 have e:(⟨w.heap.size,0,none⟩:Addr).add j=⟨w.heap.size,j,none⟩:=by unfold Addr.add;split<;>simp_all
 rw[e];show(w.alloc (.cells c.toArray t)).cell? _=_;rw[World.cell?_alloc_new];simpa using h
theorem below_append {B:Nat}{W w w1 w':World}{base:Nat}{e:TypeId}{size:Nat}{v:Value}{n:Nat}{xs:List Value}(hB:Below B W w)(hown:w.ownsRow base e size v n xs)
 (hb:B≤base) (hs:B≤w.heap.size) (h1:w.grownBy w1 none) (hg:w1.grownBy w' v.ownBlock):Below B W w':=
 (hB.grown h1 hs (by simp)).grown hg (Nat.le_trans hs h1.size) (fun k hk=>Nat.le_trans hb (hown.lt k hk).1)
theorem wpList_mk1 {P:Program}(w:World){ops:Array Oper}{rest:List Oper}{o:Oper}{a:Act}{Q:Exit→Act→World→Prop}{α:Type}(f:α→Value)(z0:α)
 (hg:o.guard=none) (l c:Operand) (t:TypeId) (hop:o.op=Op.makeSlice t l c)
 (base:Nat) (e:TypeId) (bytes:Nat) (h1:P.underlying t=some (.slice e)) (hinfo:(P.info? e).map (fun i=>(i.zero,i.size,i.bytes))=some (some (f z0),1,bytes)) (hzc:(f z0).cells= #[f z0])
 (L:Int) (hl:a.eval l= .int .i64 L) (hc:a.eval c= .int .i64 L) (h0:0≤L) (hb:bytes*L.toNat≤281474976710656) (h63:L≤9223372036854775807) (B:Nat) (hBs:B=w.heap.size) (hbase:base≤B)
 (hK:∀w',w'.ownsRow base e 1 (.slice (some ⟨B,0,none⟩) L.toNat L.toNat) L.toNat ((List.replicate L.toNat z0).map f)→Below w.heap.size w w'→
   wpList P ops Q rest (a.put o.dst (.slice (some ⟨B,0,none⟩) L.toNat L.toNat)) w'):
 wpList P ops Q (o::rest) a w:=by
 obtain⟨i,hi,hz,hs,hby⟩:=info_parts hinfo;subst hBs;refine wpList_make_full w hg l c t hop base e i (f z0) 1 h1 hi hz hs .i64 .i64 L L L.toNat hl hc (by omega) (by omega) (by rw[hby];exact hb) (by unfold maxLen;omega) hbase fun w' hown hgr=> ?_;rw[hzc,Nat.mul_one,toList_madeCells_one]at hown;exact hK w' (by simpa using hown) ⟨hgr.os,hgr.tape,hgr.output,hgr.size,fun k hk=>hgr.block k hk (by simp)⟩
theorem pairCells_append (a b:List (Int×Int)):pairCells (a++b)=pairCells a++pairCells b:=by simp[pairCells]
def mv (g:G)(s:Nat→Int)(v w:Nat):Int:=if v≠w then btw g v w*(s w-s v)else 0
end Go.Proofs.YtclgllmipcbagaaGreatDoor
namespace Go.Proofs.YtclgllmipcbagaaGreatDoor
set_option linter.unusedVariables false
set_option linter.unusedSimpArgs false
set_option maxRecDepth 100000
set_option maxHeartbeats 16000000
theorem drop_cons' {s:List UInt8}{p:Nat}{c:UInt8}{r:List UInt8}(h:s.drop p=c::r):p<s.length∧s[p]? =some c∧s.drop (p+1)=r:=by
 have hp:p<s.length:=by
  rcases Nat.lt_or_ge p s.length with h'|h'
  ·exact h'
  ·rw[List.drop_eq_nil_of_le h']at h;simp at h
 have:=List.drop_eq_getElem_cons hp;rw[h]at this;injection this with h1 h2
 exact⟨hp,by rw[List.getElem?_eq_getElem hp,h1],h2.symm⟩
end Go.Proofs.YtclgllmipcbagaaGreatDoor
namespace Go.Proofs.YtclgllmipcbagaaGreatDoor
set_option linter.unusedVariables false
set_option linter.unusedSimpArgs false
set_option maxRecDepth 100000
set_option maxHeartbeats 16000000
open Go.RowKit
theorem r_Letter (c:UInt8)(w:World):Calls Tryz.prog 221 #[.int .u8 c.toNat] w fun e w'=>e= .returned (.bool (isLet c))∧w'=w:=by
 by_cases h1:97≤c.toNat
 ·have h1':(97:Int)≤c.toNat:=by omega
  go_enter Tryz.func221,Tryz.ntmps221;go_wp2;go_ret;exact⟨ret_bool (by simp[isLet,h1];omega),rfl⟩
 ·have h1':¬(97:Int)≤c.toNat:=by omega
  go_enter Tryz.func221,Tryz.ntmps221;go_wp2;go_ret;exact⟨ret_bool (by simp[isLet,h1]),rfl⟩
theorem r_Digit (c:UInt8)(w:World):Calls Tryz.prog 354 #[.int .u8 c.toNat] w fun e w'=>e= .returned (.bool (isDig c))∧w'=w:=by
 by_cases h1:48≤c.toNat
 ·have h1':(48:Int)≤c.toNat:=by omega
  go_enter Tryz.func354,Tryz.ntmps354;go_wp2;go_ret;exact⟨ret_bool (by simp[isDig,h1];omega),rfl⟩
 ·have h1':¬(48:Int)≤c.toNat:=by omega
  go_enter Tryz.func354,Tryz.ntmps354;go_wp2;go_ret;exact⟨ret_bool (by simp[isDig,h1]),rfl⟩
theorem all_take (p:UInt8→Bool)(l:List UInt8)(k:Nat)(hk:k<l.length):(l.take (k+1)).all p=((l.take k).all p&&p l[k]):=by
 rw[List.take_succ_eq_append_getElem hk,List.all_append];simp
theorem all_stop (p:UInt8→Bool)(l:List UInt8)(k:Nat)(hk:k<l.length)(h:p l[k]=false):l.all p=false:=by
 rw[List.all_eq_false];exact⟨l[k],List.getElem_mem hk,by simp[h]⟩
theorem r_Sign (c:UInt8)(w:World):Calls Tryz.prog 352 #[.int .u8 c.toNat] w fun e w'=>e= .returned (.bool (isSgn c))∧w'=w:=by
 have hsz:(str marks).size=17:=rfl;go_enter Tryz.func352,Tryz.ntmps352;go_wp2;rw[show ({data:= #[44,59,58,40,41,123,125,91,93,61,43,45,42,47,60,62,46]}:ByteArray)=str marks from rfl];go_loopw [4] (fun i wr=>∃k:Nat,k≤17∧i= .int .i64 k∧(marks.take k).all (fun x=>x !=c)=true∧wr=w) (fun i _=>17-(intOf i).toNat);case atStart=>exact⟨0,by omega,rfl,rfl,rfl⟩
 case round=>
  obtain⟨k,hk,rfl,ha,rfl⟩:=hrel;by_cases hkt:k<17
  ·have hkt':k<(str marks).size:=hkt
   have hml:k<marks.length:=hkt;by_cases hc:marks[k]=c
   ·have he:(((((str marks)[k]'hkt').toNat:Nat):Int)==(c.toNat:Int))=true:=by rw[str_at,hc];exact beq_self_eq_true _
    go_wp2_with fail;go_ret;exact⟨ret_bool (by rw[isSgn,eq_comm,List.contains_iff_mem,←hc];exact List.getElem_mem hml),rfl⟩
   ·have he:(((((str marks)[k]'hkt').toNat:Nat):Int)==(c.toNat:Int))=false:=by
     rw[str_at,beq_eq_false_iff_ne];intro h;exact hc (UInt8.toNat_inj.1 (Int.ofNat.inj h))
    have hx:(marks.take (k+1)).all (fun x=>x !=c)=true:=by rw[all_take _ marks k hml,ha];simpa using hc
    go_wp2_with fail;go_roundw;case rel=>exact⟨k+1,by omega,by go_num,hx,trivial⟩
    case measure=>simp[intOf];omega
  ·have hkt':¬k<(str marks).size:=hkt
   have hal:marks.all (fun x=>x !=c)=true:=by rw[List.take_of_length_le (by show 17≤k;omega)]at ha;exact ha
   go_wp2_with fail;go_ret;refine⟨ret_bool ?_,rfl⟩;rw[isSgn,eq_comm,Bool.eq_false_iff,ne_eq,List.contains_iff_mem];intro hm;have:=List.all_eq_true.1 hal c hm;simp at this
theorem r_letters (l:List UInt8)(w:World)(hl:l.length≤140737488355328):Calls Tryz.prog 165 #[.string (str l)] w fun e w'=>e= .returned (.bool (!l.isEmpty&&l.all isLet))∧w'=w:=by
 have hsz:=str_size l;go_enter Tryz.func165,Tryz.ntmps165;go_wp2;go_loopw [3] (fun i wr=>∃k:Nat,k≤l.length∧i= .int .i64 k∧(l.take k).all isLet=true∧wr=w) (fun i _=>l.length-(intOf i).toNat);case atStart=>exact⟨0,Nat.zero_le _,rfl,rfl,rfl⟩
 case round=>
  obtain⟨k,hk,rfl,ha,rfl⟩:=hrel;by_cases hkt:k<l.length
  ·have hkt':k<(str l).size:=by rw[hsz];exact hkt
   have hd:∀w,Calls Tryz.prog 221 #[.int .u8 (str l)[k].toNat] w fun e w'=>e= .returned (.bool (isLet l[k]))∧w'=w:=fun w=>r_Letter (str l)[k] w;cases hp:isLet l[k]with
   |true=>
    have hx:(l.take (k+1)).all isLet=true:=by rw[all_take _ l k hkt,ha];exact hp
    rw[hp]at hd
    go_wp2_with fail
    refine(hd _).mono ?_
    rintro e w1 ⟨rfl,rfl⟩
    go_simp
    go_wp2_with fail
    go_roundw
    case rel=>exact⟨k+1,by omega,by go_num,hx,trivial⟩
    case measure=>simp[intOf];omega
   |false=>
    rw[hp]at hd
    go_wp2_with fail
    refine(hd _).mono ?_
    rintro e w1 ⟨rfl,rfl⟩
    go_simp
    go_wp2_with fail
    go_ret
    exact⟨ret_bool (by rw[all_stop _ l k hkt hp,Bool.and_false]),rfl⟩
  ·have hkt':¬k<(str l).size:=by rw[hsz];exact hkt
   have hal:l.all isLet=true:=by rw[List.take_of_length_le (by omega)]at ha;exact ha
   go_wp2_with fail;go_ret;refine⟨ret_bool ?_,rfl⟩;rw[hal,Bool.and_true];cases l<;>simp
theorem r_digits (l:List UInt8)(w:World)(hl:l.length≤140737488355328):Calls Tryz.prog 356 #[.string (str l)] w fun e w'=>e= .returned (.bool (!l.isEmpty&&l.all isDig))∧w'=w:=by
 have hsz:=str_size l;go_enter Tryz.func356,Tryz.ntmps356;go_wp2;go_loopw [3] (fun i wr=>∃k:Nat,k≤l.length∧i= .int .i64 k∧(l.take k).all isDig=true∧wr=w) (fun i _=>l.length-(intOf i).toNat);case atStart=>exact⟨0,Nat.zero_le _,rfl,rfl,rfl⟩
 case round=>
  obtain⟨k,hk,rfl,ha,rfl⟩:=hrel;by_cases hkt:k<l.length
  ·have hkt':k<(str l).size:=by rw[hsz];exact hkt
   have hd:∀w,Calls Tryz.prog 354 #[.int .u8 (str l)[k].toNat] w fun e w'=>e= .returned (.bool (isDig l[k]))∧w'=w:=fun w=>r_Digit (str l)[k] w;cases hp:isDig l[k]with
   |true=>
    have hx:(l.take (k+1)).all isDig=true:=by rw[all_take _ l k hkt,ha];exact hp
    rw[hp]at hd
    go_wp2_with fail
    refine(hd _).mono ?_
    rintro e w1 ⟨rfl,rfl⟩
    go_simp
    go_wp2_with fail
    go_roundw
    case rel=>exact⟨k+1,by omega,by go_num,hx,trivial⟩
    case measure=>simp[intOf];omega
   |false=>
    rw[hp]at hd
    go_wp2_with fail
    refine(hd _).mono ?_
    rintro e w1 ⟨rfl,rfl⟩
    go_simp
    go_wp2_with fail
    go_ret
    exact⟨ret_bool (by rw[all_stop _ l k hkt hp,Bool.and_false]),rfl⟩
  ·have hkt':¬k<(str l).size:=by rw[hsz];exact hkt
   have hal:l.all isDig=true:=by rw[List.take_of_length_le (by omega)]at ha;exact ha
   go_wp2_with fail;go_ret;refine⟨ret_bool ?_,rfl⟩;rw[hal,Bool.and_true];cases l<;>simp
theorem r_Word (l:List UInt8)(w:World)(hl:l.length≤140737488355328):Calls Tryz.prog 105 #[.string (str l)] w fun e w'=>e= .returned (.int .i64 (wordErr l))∧w'=w:=by
 have hsz:=str_size l;have hd:=fun w=>r_letters l w hl;cases h1:(!l.isEmpty&&l.all isLet)with
 |false=>
  rw[h1]at hd
  have hz:wordErr l=3:=by unfold wordErr;rw[if_pos];revert h1;cases l.isEmpty<;>cases l.all isLet<;>simp
  rw[hz]
  go_enter Tryz.func105,Tryz.ntmps105
  go_wp2_with fail
  refine(hd _).mono ?_
  rintro e w1 ⟨rfl,rfl⟩
  go_simp
  go_wp2_with fail
  go_ret
  exact⟨rfl,rfl⟩
 |true=>
  rw[h1]at hd
  have hz:wordErr l=if 24<(str l).size then 19 else 0:=by
   unfold wordErr;rw[if_neg,hsz];revert h1;cases l.isEmpty<;>cases l.all isLet<;>simp
  go_enter Tryz.func105,Tryz.ntmps105
  go_wp2_with fail
  refine(hd _).mono ?_
  rintro e w1 ⟨rfl,rfl⟩
  go_simp
  go_wp2_with fail
  ·go_ret
   exact⟨ret_int (by rw[hz,if_pos (by omega)]),rfl⟩
  ·go_ret
   exact⟨ret_int (by rw[hz,if_neg (by omega)]),rfl⟩
theorem r_number (l:List UInt8)(w:World)(hl:l.length≤140737488355328):Calls Tryz.prog 355 #[.string (str l)] w fun e w'=>e= .returned (.int .i64 (numErr l))∧w'=w:=by
 have hsz:=str_size l;have hd:=fun w=>r_digits l w hl;cases h1:(!l.isEmpty&&l.all isDig)with
 |false=>
  rw[h1]at hd
  have hz:numErr l=3:=by unfold numErr;rw[if_pos];revert h1;cases l.isEmpty<;>cases l.all isDig<;>simp
  rw[hz]
  go_enter Tryz.func355,Tryz.ntmps355
  go_wp2_with fail
  refine(hd _).mono ?_
  rintro e w1 ⟨rfl,rfl⟩
  go_simp
  go_wp2_with fail
  go_ret
  exact⟨rfl,rfl⟩
 |true=>
  rw[h1]at hd
  have hz:numErr l=if 1024<(str l).size then 11 else if natB l=true then 0 else 3:=by
   unfold numErr;rw[if_neg,hsz];revert h1;cases l.isEmpty<;>cases l.all isDig<;>simp
  have hl0:0<l.length:=by cases l with
   |nil=>simp at h1
   |cons c r=>simp
  have hs0:0<(str l).size:=by rw[hsz];exact hl0
  obtain⟨c,hcd⟩:∃c,c=(str l)[0]'hs0:=⟨_,rfl⟩
  have hn:natB l=(decide (c≠48)||decide (l.length=1)):=by
   have h2:l.all isDig=true:=by revert h1;cases l.all isDig<;>simp
   rw[hcd,str_at];cases l with
   |nil=>simp at hl0
   |cons d r=>unfold natB;rw[h2];simp
  by_cases hlen:1024<l.length
  ·have h1024:(1024:Int)<((str l).size:Int):=by rw[hsz];omega
   rw[hz,if_pos (by rw[hsz];exact hlen)];clear hl hlen hz hn hsz h1 hl0 hcd;go_enter Tryz.func355,Tryz.ntmps355;go_wp2_with fail;refine(hd _).mono ?_;rintro e w1 ⟨rfl,rfl⟩;go_simp;go_wp2_with fail;go_ret;exact⟨rfl,rfl⟩
  ·have h1024:¬(1024:Int)<((str l).size:Int):=by rw[hsz];omega
   rw[hz,if_neg (by rw[hsz];exact hlen)];by_cases hone:1<l.length
   ·have h2:(1:Int)<((str l).size:Int):=by rw[hsz];omega
    by_cases hc:c=48
    ·have hc':(((str l)[0].toNat:Nat):Int)=48:=by rw[← hcd,hc];rfl
     have hn':natB l=false:=by rw[hn,hc,decide_eq_false (by omega:¬l.length=1)];rfl
     rw[hn'];clear hl hlen hone hz hn hn' hsz h1 hl0 hcd;go_enter Tryz.func355,Tryz.ntmps355;go_wp2_with fail;refine(hd _).mono ?_;rintro e w1 ⟨rfl,rfl⟩;go_simp;go_wp2_with fail;go_ret;exact⟨rfl,rfl⟩
    ·have hc':¬(((str l)[0].toNat:Nat):Int)=48:=by
      rw[← hcd];intro h;exact hc (UInt8.toNat_inj.1 (by have:(48:UInt8).toNat=48:=rfl;omega))
     have hn':natB l=true:=by rw[hn];simp[hc]
     rw[hn'];clear hl hlen hone hz hn hn' hsz h1 hl0 hcd;go_enter Tryz.func355,Tryz.ntmps355;go_wp2_with fail;refine(hd _).mono ?_;rintro e w1 ⟨rfl,rfl⟩;go_simp;go_wp2_with fail;go_ret;exact⟨rfl,rfl⟩
   ·have h2:¬(1:Int)<((str l).size:Int):=by rw[hsz];omega
    have hn':natB l=true:=by rw[hn,decide_eq_true (by omega:l.length=1),Bool.or_true]
    rw[hn'];clear hl hlen hone hz hn hn' hsz h1 hl0 hcd;go_enter Tryz.func355,Tryz.ntmps355;go_wp2_with fail;refine(hd _).mono ?_;rintro e w1 ⟨rfl,rfl⟩;go_simp;go_wp2_with fail;go_ret;exact⟨rfl,rfl⟩
def predOf (c:UInt8)(d:UInt8):Bool:=if isLet c then isLet d else if isDig c then isDig d else false
theorem predOf_or (c d:UInt8):(isLet c&&isLet d||isDig c&&isDig d)=predOf c d:=by
 unfold predOf;cases h:isLet c with
 |true=>rw[let_dig c h];simp
 |false=>cases isDig c<;>simp
theorem tw_stop (p:UInt8→Bool)(l:List UInt8)(k:Nat)(h1:(l.take k).all p=true)(h2:∀h:k<l.length,p l[k]=false):l.takeWhile p=l.take k:=by
 conv=>lhs;rw[← List.take_append_drop k l]
 refine tw_app p _ _ h1 fun c s e=> ?_;have h3:=drop_cons' e;have h4:=h2 h3.1;have h5:=h3.2.1;rw[List.getElem?_eq_getElem h3.1]at h5;injection h5 with h5
 rw[← h5];exact h4
theorem r_run (c:UInt8)(r:List UInt8)(w:World)(hl:(c::r).length≤140737488355328):Calls Tryz.prog 353 #[.string (str (c::r))] w fun e w'=>e= .returned (.string (str ((c::r).takeWhile (predOf c))))∧w'=w:=by
 generalize hcr:c::r=l at*
 have HL:=hid hl;clear hl;have hsz:=str_size l;have hl0:0<l.length:=by rw[← hcr];simp
 have hs0:0<(str l).size:=by rw[hsz];exact hl0
 have hc0:(str l)[0]'hs0=c:=by rw[str_at];simp[← hcr]
 go_enter Tryz.func353,Tryz.ntmps353;go_wp2;go_loopw [3] (fun i wr=>∃k:Nat,k≤l.length∧i= .int .i64 k∧(l.take k).all (predOf c)=true∧wr=w) (fun i _=>l.length-(intOf i).toNat);case atStart=>exact⟨0,Nat.zero_le _,rfl,rfl,rfl⟩
 case round=>
  obtain⟨k,hk,rfl,ha,rfl⟩:=hrel;by_cases hkt:k<l.length
  ·have hkt':k<(str l).size:=by rw[hsz];exact hkt
   have hxk:l[k]'hkt=(str l)[k]'hkt':=rfl;have hstep:predOf c ((str l)[k]'hkt')=true→(l.take (k+1)).all (predOf c)=true:=fun h=>by rw[all_take _ l k hkt,ha,hxk,Bool.true_and];exact h
   have hend:predOf c ((str l)[k]'hkt')=false→l.takeWhile (predOf c)=l.take k:=fun h=>tw_stop _ l k ha fun _=>by rw[hxk];exact h
   have hp:=predOf_or c ((str l)[k]'hkt')
   have hgo:(∃ b1 b2 b3 b4:Bool,isLet ((str l)[0]'hs0)=b1∧isLet ((str l)[k]'hkt')=b2∧isDig ((str l)[0]'hs0)=b3∧isDig ((str l)[k]'hkt')=b4∧predOf c ((str l)[k]'hkt')=(b1&&b2||b3&&b4)∧
    (b1=true∧b3=false∨b1=false)):=by
    refine⟨_,_,_,_,rfl,rfl,rfl,rfl,?_,?_⟩
    ·rw[hc0];exact hp.symm
    ·rw[hc0]
     cases h:isLet c with
     |true=>exact .inl ⟨rfl,let_dig c h⟩
     |false=>exact .inr rfl
   have hx:Hid (((str l).extract 0 k)=str (l.take k)):=by show _=_;rw[str_extract];simp
   obtain⟨b1,b2,b3,b4,h1,h2,h3,h4,h5,h6⟩:=hgo;rw[h5]at hstep hend;clear h5 hp hxk ha hc0;have HS:=hid hstep;have HE:=hid hend;clear hstep hend;cases b1 with
   |true=>
    have hb3:b3=false:=by rcases h6 with h|h;exact h.2;cases h
    subst hb3
    cases b2 with
    |true=>
     clear h6
     go_wp2_with (first|(go_at_call 221;refine(r_Letter _ _).mono ?_;rintro e w1 ⟨rfl,rfl⟩)|(go_at_call 354;refine(r_Digit _ _).mono ?_;rintro e w1 ⟨rfl,rfl⟩))
     rw[wrapS _ (by have:=HL.out;omega)]
     go_roundw
     case rel=>exact⟨k+1,by omega,by go_num,HS.out rfl,trivial⟩
     case measure=>simp[intOf];omega
    |false=>
     clear h6
     go_wp2_with (first|(go_at_call 221;refine(r_Letter _ _).mono ?_;rintro e w1 ⟨rfl,rfl⟩)|(go_at_call 354;refine(r_Digit _ _).mono ?_;rintro e w1 ⟨rfl,rfl⟩))
     go_ret
     exact⟨by rw[hx.out,HE.out rfl];rfl,rfl⟩
   |false=>
    cases b3 with
    |true=>
     cases b4 with
     |true=>
      clear h6
      go_wp2_with (first|(go_at_call 221;refine(r_Letter _ _).mono ?_;rintro e w1 ⟨rfl,rfl⟩)|(go_at_call 354;refine(r_Digit _ _).mono ?_;rintro e w1 ⟨rfl,rfl⟩))
      rw[wrapS _ (by have:=HL.out;omega)]
      go_roundw
      case rel=>exact⟨k+1,by omega,by go_num,HS.out rfl,trivial⟩
      case measure=>simp[intOf];omega
     |false=>
      clear h6
      go_wp2_with (first|(go_at_call 221;refine(r_Letter _ _).mono ?_;rintro e w1 ⟨rfl,rfl⟩)|(go_at_call 354;refine(r_Digit _ _).mono ?_;rintro e w1 ⟨rfl,rfl⟩))
      go_ret
      exact⟨by rw[hx.out,HE.out rfl];rfl,rfl⟩
    |false=>
     clear h6
     go_wp2_with (first|(go_at_call 221;refine(r_Letter _ _).mono ?_;rintro e w1 ⟨rfl,rfl⟩)|(go_at_call 354;refine(r_Digit _ _).mono ?_;rintro e w1 ⟨rfl,rfl⟩))
     go_ret
     exact⟨by rw[hx.out,HE.out rfl];rfl,rfl⟩
  ·have hkt':¬k<(str l).size:=by rw[hsz];exact hkt
   have hkl:k=l.length:=by omega
   have hx:Hid (((str l).extract 0 k)=str (l.takeWhile (predOf c))):=by
    show _=_;rw[str_extract,tw_stop _ l k ha (fun h=>absurd h hkt)];simp
   clear ha hkl;go_wp2_with fail;go_ret;exact⟨by rw[hx.out];rfl,rfl⟩
def refRun (c:UInt8)(r:List UInt8):List UInt8:=(c::r).takeWhile (predOf c)
theorem refRun_eq (c:UInt8)(r:List UInt8)(h2:isLet c=true∨isDig c=true):refRun c r=runOf (c::r):=by
 rw[runOf_cons];unfold refRun;cases h1:isLet c with
 |true=>rw[if_pos rfl];exact congrArg (List.takeWhile · (c::r)) (funext fun d=>by unfold predOf;rw[h1];rfl)
 |false=>
  cases h3:isDig c with
  |true=>rw[if_neg (by decide),if_pos rfl];exact congrArg (List.takeWhile · (c::r)) (funext fun d=>by unfold predOf;rw[h1,h3];rfl)
  |false=>rw[h1,h3]at h2;simp at h2
theorem results_cell_tmp {P:Program}{fn:Func}{k u:Nat}{t:TypeId}(h:fn.results= #[.cell k t,.tmp u]){tmps:Array Value}{b:Nat}{v:Value}{w:World}(ht:tmps[k]?.getD undef= .pointer (some ⟨b,0,none⟩))
 (hl:(loadVar t ⟨b,0,none⟩).run P w= .ok v w):(results fn tmps).run P w= .ok (.tuple #[v,tmps.getD u undef]) w:=by
 simp[results,h,ht,asAddr,hl]
def FirstPost (c:UInt8)(r:List UInt8)(at':Nat)(w:World)(e:Ending)(w':World):Prop:=
 ∃k t a,e= .returned (.tuple #[.agg #[.int .i64 k,.string (str t),.int .i64 a],.int .i64 (tokErr (kindOf c) (runOf (c::r)))])∧
  (tokErr (kindOf c) (runOf (c::r))=0→k=kindOf c∧t=runOf (c::r)∧a=at')∧Below w.heap.size w w'
theorem refRun_len (c:UInt8)(r:List UInt8):(refRun c r).length≤(c::r).length:=by
 unfold refRun;generalize c::r=l;induction l with
 |nil=>simp
 |cons a l ih=>by_cases h:predOf c a=true<;>simp[h];exact ih
theorem r_first (c:UInt8)(r:List UInt8)(at':Nat)(w:World)(hl:(c::r).length≤140737488355328):
 Calls Tryz.prog 305 #[.string (str (c::r)),.int .i64 at'] w (FirstPost c r at' w):=by
 have hrun:∀w,Calls Tryz.prog 353 #[.string (str (c::r))] w fun e w'=>e= .returned (.string (str (refRun c r)))∧w'=w:=fun w=>r_run c r w hl;have hrl:=refRun_len c r;have hword:=fun w=>r_Word (refRun c r) w (by omega);have hnum:=fun w=>r_number (refRun c r) w (by omega);have hs0:0<(str (c::r)).size:=by rw[str_size];simp
 have hs1:1≤(str (c::r)).size:=hs0;have hc0:(str (c::r))[0]'hs0=c:=rfl;have HE:Hid ((str (c::r)).extract 0 1=str [c]):=by show _=_;rw[str_extract];simp
 clear hl hrl;cases hsg:isSgn c with
 |true=>
  have hn:=sgn_not c hsg
  have hz:tokErr (kindOf c) (runOf (c::r))=0∧kindOf c=2∧runOf (c::r)=[c]:=by
   have h1:kindOf c=2:=by simp[kindOf,hn.1,hn.2.1,hsg]
   have h2:runOf (c::r)=[c]:=by rw[runOf_cons,hn.1,hn.2.1];rfl
   refine⟨?_,h1,h2⟩;rw[h1,h2];simp[tokErr,sgnErr,hsg]
  have hq:∀w,Calls Tryz.prog 352 #[.int .u8 ((str (c::r))[0]'hs0).toNat] w fun e w'=>e= .returned (.bool true)∧w'=w:=fun w=>by rw[hc0,←hsg];exact r_Sign c w
  obtain⟨hz1,hz2,hz3⟩:=hz
  have HZ:=hid hz1
  generalize hL:c::r=l at*
  clear hrun hword hnum hn hsg hc0
  go_enter Tryz.func305,Tryz.ntmps305
  go_wp2_with fail
  refine(hq _).mono ?_
  rintro e w1 ⟨rfl,rfl⟩
  go_simp
  go_wp2_with fail
  have hc3:=cell_new3 w (.int .i64 2) (.string ((str l).extract 0 1)) (.int .i64 at') 307
  refine bodyPost_ret (results_cell_tmp rfl rfl (load_tok hc3.1 hc3.2.1 hc3.2.2)) rfl ⟨2,[c],at',?_,?_,by go_grown⟩
  ·rw[HE.out,hL,HZ.out];rfl
  ·intro _;rw[hL];exact⟨hz2.symm,hz3.symm,rfl⟩
 |false=>
  have hq:∀w,Calls Tryz.prog 352 #[.int .u8 ((str (c::r))[0]'hs0).toNat] w fun e w'=>e= .returned (.bool false)∧w'=w:=fun w=>by rw[hc0,←hsg];exact r_Sign c w
  have hq2:∀w,Calls Tryz.prog 221 #[.int .u8 ((str (c::r))[0]'hs0).toNat] w fun e w'=>e= .returned (.bool (isLet c))∧w'=w:=fun w=>by rw[hc0];exact r_Letter c w
  have hq3:∀w,Calls Tryz.prog 354 #[.int .u8 ((str (c::r))[0]'hs0).toNat] w fun e w'=>e= .returned (.bool (isDig c))∧w'=w:=fun w=>by rw[hc0];exact r_Digit c w
  cases hlt:isLet c with
  |true=>
   rw[hlt]at hq2
   have hk:kindOf c=0:=by simp[kindOf,hlt]
   have hz:tokErr (kindOf c) (runOf (c::r))=wordErr (refRun c r):=by rw[hk,refRun_eq c r (.inl hlt)];rfl
   have hr:=refRun_eq c r (.inl hlt)
   generalize refRun c r=t at*
   have HZ:=hid hz
   have HK:=hid hk
   have HRR:=hid hr
   generalize hL:c::r=l at*
   clear hnum hsg hc0 hz hk hr
   go_enter Tryz.func305,Tryz.ntmps305
   go_wp2_with fail
   refine(hq _).mono ?_
   rintro e w1 ⟨rfl,rfl⟩
   go_simp
   go_wp2_with fail
   refine(hrun _).mono ?_
   rintro e w1 ⟨rfl,rfl⟩
   go_simp
   go_wp2_with fail
   refine(hq2 _).mono ?_
   rintro e w1 ⟨rfl,rfl⟩
   go_simp
   go_wp2_with fail
   let S:World→Prop:=fun w'=>w'=((w.alloc (.cells #[.int .i64 0,.string {data:= #[]},.int .i64 0] 307)).alloc (.cells #[.int .i64 0,.string (str t),.int .i64 at'] 307)).drew
   (refine wp_region_text 4 [0,1,2,3] S (by kernel_rfl) (by kernel_rfl) (by intro _ _ d _ _ h;cases d<;>exact h) ?hS ?_;rotate_left;simp only[xA,xB,xC,xD,xE,xF])
   case hS=>rfl
   (repeat ((refine' wpSeq_take rfl _ (by rfl) ?_ ?_;rotate_left;focus(intro w' hS;(try dsimp only at hS);subst hS;go_simp;(first|done|with_reducible rfl));(try go_frame));(try go_frame)))
   (refine wpSeq_call rfl (by rfl) (fun K hK=> ?_);go_simp;refine((hword _)).mono ?_;rintro e w1 ⟨rfl,rfl⟩;refine hK _ _ (rfl) ?_;clear hK K;(try go_frame))
   refine wpSeq_nil ?_
   clear S
   go_wp2_with fail
   refine bodyPost_ret (results_cell_tmp rfl rfl (load_tok (v0:= .int .i64 0) (v1:= .string (str t)) (v2:= .int .i64 at') ?_ ?_ ?_)) rfl ⟨0,t,at',?_,?_,?_⟩
   ·go_simp
   ·go_simp
   ·go_simp
   ·rw[hL,HZ.out];rfl
   ·intro _;rw[hL];exact⟨HK.out.symm,HRR.out,rfl⟩
   ·go_grown
  |false=>
   rw[hlt]at hq2
   cases hdg:isDig c with
   |true=>
    rw[hdg]at hq3
    have hk:kindOf c=1:=by simp[kindOf,hlt,hdg]
    have hz:tokErr (kindOf c) (runOf (c::r))=numErr (refRun c r):=by rw[hk,refRun_eq c r (.inr hdg)];rfl
    have hr:=refRun_eq c r (.inr hdg)
    generalize refRun c r=t at*
    have HZ:=hid hz
    have HK:=hid hk
    have HRR:=hid hr
    generalize hL:c::r=l at*
    clear hword hsg hc0 hz hk hr
    go_enter Tryz.func305,Tryz.ntmps305
    go_wp2_with fail
    refine(hq _).mono ?_
    rintro e w1 ⟨rfl,rfl⟩
    go_simp
    go_wp2_with fail
    refine(hrun _).mono ?_
    rintro e w1 ⟨rfl,rfl⟩
    go_simp
    go_wp2_with fail
    refine(hq2 _).mono ?_
    rintro e w1 ⟨rfl,rfl⟩
    go_simp
    go_wp2_with fail
    refine(hq3 _).mono ?_
    rintro e w1 ⟨rfl,rfl⟩
    go_simp
    go_wp2_with fail
    let S:World→Prop:=fun w'=>w'=((w.alloc (.cells #[.int .i64 0,.string {data:= #[]},.int .i64 0] 307)).alloc (.cells #[.int .i64 1,.string (str t),.int .i64 at'] 307)).drew
    (refine wp_region_text 4 [0,1,2,3] S (by kernel_rfl) (by kernel_rfl) (by intro _ _ d _ _ h;cases d<;>exact h) ?hS ?_;rotate_left;simp only[xA,xB,xC,xD,xE,xF])
    case hS=>rfl
    (repeat ((refine' wpSeq_take rfl _ (by rfl) ?_ ?_;rotate_left;focus(intro w' hS;(try dsimp only at hS);subst hS;go_simp;(first|done|with_reducible rfl));(try go_frame));(try go_frame)))
    (refine wpSeq_call rfl (by rfl) (fun K hK=> ?_);go_simp;refine((hnum _)).mono ?_;rintro e w1 ⟨rfl,rfl⟩;refine hK _ _ (rfl) ?_;clear hK K;(try go_frame))
    refine wpSeq_nil ?_
    clear S
    go_wp2_with fail
    refine bodyPost_ret (results_cell_tmp rfl rfl (load_tok (v0:= .int .i64 1) (v1:= .string (str t)) (v2:= .int .i64 at') ?_ ?_ ?_)) rfl ⟨1,t,at',?_,?_,?_⟩
    ·go_simp
    ·go_simp
    ·go_simp
    ·rw[hL,HZ.out];rfl
    ·intro _;rw[hL];exact⟨HK.out.symm,HRR.out,rfl⟩
    ·go_grown
   |false=>
    rw[hdg]at hq3
    have hk:kindOf c=4:=by simp[kindOf,hlt,hdg,hsg]
    have hz:tokErr (kindOf c) (runOf (c::r))=4:=by rw[hk];rfl
    have HZ:=hid hz
    generalize refRun c r=t at*
    generalize hL:c::r=l at*
    clear hword hnum hsg hc0 hz hk
    go_enter Tryz.func305,Tryz.ntmps305
    go_wp2_with fail
    refine(hq _).mono ?_
    rintro e w1 ⟨rfl,rfl⟩
    go_simp
    go_wp2_with fail
    refine(hrun _).mono ?_
    rintro e w1 ⟨rfl,rfl⟩
    go_simp
    go_wp2_with fail
    refine(hq2 _).mono ?_
    rintro e w1 ⟨rfl,rfl⟩
    go_simp
    go_wp2_with fail
    refine(hq3 _).mono ?_
    rintro e w1 ⟨rfl,rfl⟩
    go_simp
    go_wp2_with fail
    refine bodyPost_ret (results_cell_tmp rfl rfl (load_tok (v0:= .int .i64 0) (v1:= .string (str [])) (v2:= .int .i64 0) ?_ ?_ ?_)) rfl ⟨0,[],0,?_,?_,?_⟩
    ·go_simp
    ·go_simp;rfl
    ·go_simp
    ·rw[hL,HZ.out];rfl
    ·intro h;rw[hL,HZ.out]at h;exact absurd h (by decide)
    ·go_grown
theorem r_Scan (s:List UInt8)(w:World):Calls Tryz.prog 241 #[.string (str s)] w (RetScan (scanR s) w):=by
 have hsz:=str_size s;by_cases hlen:4096<s.length
 ·have h1:(4096:Int)<((str s).size:Int):=by rw[hsz];omega
  have hz:scanR s= .inl (0,19):=by unfold scanR;rw[if_pos hlen]
  rw[hz];clear hz hlen hsz;go_enter Tryz.func241,Tryz.ntmps241;go_wp2_with fail;go_ret3;exact⟨_,rfl,World.ownsRow_nil _ _ _ _,Below.refl _ _⟩
 ·have h1:¬(4096:Int)<((str s).size:Int):=by rw[hsz];omega
  have hz:scanR s=fuelS s 0:=by unfold scanR;rw[if_neg hlen];rfl
  rw[hz];have HZ:Hid (Scn.pre [] (fuelS (s.drop 0) 0)=fuelS s 0):=pre_nil _;generalize fuelS s 0=z at*
  have HL:Hid (s.length≤4096):=by show _≤_;omega
  clear hz hlen;go_enter Tryz.func241,Tryz.ntmps241;go_wp2_with fail
  go_loopw [5,6] (fun t i wr=>∃(p:Nat) (l:List Tok),p≤s.length∧l.length≤p∧i= .int .i64 p∧wr.ownsRow w.heap.size 307 3 t l.length (tokCells l)∧
   Hid (Scn.pre l (fuelS (s.drop p) p)=z)∧Below w.heap.size w wr) (fun _ i _=>s.length-(intOf i).toNat)
  case atStart=>exact⟨0,[],Nat.zero_le _,Nat.le_refl _,rfl,World.ownsRow_nil _ _ _ _,HZ,Below.refl _ _⟩
  case round=>
   clear HZ;obtain⟨p,l,hp,hlp,rfl,hown,HP,hB⟩:=hrel;by_cases hpt:p<s.length
   ·have hpt':p<(str s).size:=by rw[hsz];exact hpt
    have hd:=str_drop hpt';obtain⟨c,hcd⟩:∃c,c=(str s)[p]'hpt':=⟨_,rfl⟩;rw[← hcd]at hd;by_cases hc:c=32
    ·have hb:(((((str s)[p]'hpt').toNat:Nat):Int)==32)=true:=by rw[← hcd,hc];rfl
     have HS:Hid (Scn.pre l (fuelS (s.drop (p+1)) (p+1))=z):=by
      show _=_;rw[← HP.out,hd,hc,fuelS_blank]
     clear HP hd hcd hc;go_wp2_with fail;go_roundw;case rel=>exact⟨p+1,l,by omega,by omega,by go_num,hown,HS,hB⟩
     case measure=>simp[intOf];omega
    ·have hb:(((((str s)[p]'hpt').toNat:Nat):Int)==32)=false:=by
      rw[← hcd,beq_eq_false_iff_ne];intro h;exact hc (UInt8.toNat_inj.1 (Int.ofNat.inj h))
     have hcl:(c::s.drop (p+1)).length≤140737488355328:=by have:=HL.out;rw[List.length_cons,List.length_drop];omega
     have hrl:=runOf_len c (s.drop (p+1));have hrl2:(c::s.drop (p+1)).length=s.length-p:=by rw[← hd,List.length_drop]
     have hfirst:∀w,Calls Tryz.prog 305 #[.string ((str s).extract p (str s).size),.int .i64 p] w (FirstPost c (s.drop (p+1)) p w):=fun w=>by
      have e:(str s).extract p (str s).size=str (c::s.drop (p+1)):=by
       rw[str_extract,←hd,hsz,List.take_of_length_le (by rw[List.length_drop];omega)]
      rw[e];exact r_first c (s.drop (p+1)) p w hcl
     have HE:Hid (tokErr (kindOf c) (runOf (c::s.drop (p+1)))≠0→z= .inl (p,tokErr (kindOf c) (runOf (c::s.drop (p+1))))):=fun he=>by
      rw[← HP.out,hd,fuelS_err c _ p hc he];rfl
     have HT:Hid (tokErr (kindOf c) (runOf (c::s.drop (p+1)))=0→Scn.pre (l++[⟨kindOf c,runOf (c::s.drop (p+1)),p⟩]) (fuelS (s.drop (p+(runOf (c::s.drop (p+1))).length)) (p+(runOf (c::s.drop (p+1))).length))=z):=fun he=>by
      rw[← HP.out,hd,fuelS_tok c _ p hc he];have e:(c::s.drop (p+1)).drop (runOf (c::s.drop (p+1))).length=s.drop (p+(runOf (c::s.drop (p+1))).length):=by rw[← hd,List.drop_drop]
      rw[e];cases fuelS (s.drop (p+(runOf (c::s.drop (p+1))).length)) (p+(runOf (c::s.drop (p+1))).length)<;>simp[Scn.pre]
     rw[hrl2]at hrl;unfold FirstPost at hfirst;generalize tokErr (kindOf c) (runOf (c::s.drop (p+1)))=er at*
     generalize kindOf c=kc at*
     generalize runOf (c::s.drop (p+1))=tx at*
     have HF:=hid hfirst;clear hcl hrl2 hd hcd hc HP hfirst;by_cases her:er=0
     ·subst her
      have HT':=hid (HT.out rfl);clear HT HE;go_wp2_with fail;refine(HF.out _).mono ?_;rintro e w1 ⟨k,t,a,rfl,hk,hB1⟩;obtain⟨rfl,rfl,rfl⟩:=hk (by trivial);clear HF hk;have hown1:=owns_below hown hB1;have hBw:=hB.trans (hB1.mono hB.size);have hs1:=hBw.size;have c1:=(cell_new3 w1 (.int .i64 k) (.string (str t)) (.int .i64 p) 307).2.1;have hlt1:=fun q hq=>hown1.lt q hq;have HC:=hid c1;clear c1;have hBa:Below w.heap.size w (w1.alloc (.cells #[.int .i64 k,.string (str t),.int .i64 p] 307)):=hBw.alloc hs1 _;go_simp;go_wp2_with (at_builtin;refine wpList_app3 (w1.alloc (.cells #[.int .i64 k,.string (str t),.int .i64 p] 307)) rfl _ _ 234 rfl 307 Tryz.underToks Tryz.infoTok w.heap.size _ l (hown1.alloc _) ⟨k,t,p⟩ (w1.heap.size+1) (by simp) rfl rfl (by have:=HL.out;omega) (by simp;omega) ?_;intro v' w2 hown2 hgr2 hbk;have c2:=(grown_cell hgr2 w1.heap.size 1 (by simp) (fun h=>absurd (hlt1 _ h.symm).2 (Nat.lt_irrefl _))).trans HC.out)
      rw[str_size,wrapS _ (by have:=HL.out;omega)];go_roundw;case rel=>exact⟨p+t.length,l++[⟨k,t,p⟩],by omega,by simp;omega,by go_num,hown2,HT',below_grown hBa (by simp;omega) hgr2 (fun q hq=>(hbk q hq).1) (Nat.le_refl _)⟩
      case measure=>simp[intOf];omega
     ·have hz:=HE.out her
      subst hz;go_wp2_with fail;refine(HF.out _).mono ?_;rintro e w1 ⟨k,t,a,rfl,hk,hB1⟩;clear HF hk;have hBw:=hB.trans (hB1.mono hB.size);go_simp;go_wp2_with fail;go_ret3;exact⟨_,rfl,World.ownsRow_nil _ _ _ _,hBw.alloc hBw.size _⟩
   ·have hpt':¬p<(str s).size:=by rw[hsz];exact hpt
    have hpe:p=s.length:=by omega
    have HZ:Hid (z= .inr (l++[⟨3,[],p⟩])):=by
     show _=_;rw[← HP.out,hpe,List.drop_length];rfl
    clear HP hpe;have hs1:=hB.size;go_wp2_with (at_builtin;refine wpList_app3 wr rfl _ _ 234 rfl 307 Tryz.underToks Tryz.infoTok w.heap.size _ l hown ⟨3,[],p⟩ wr.heap.size rfl rfl rfl (by have:=HL.out;omega) (by omega) ?_;intro v' w2 hown2 hgr2 hbk);go_ret3;rw[HZ.out];exact⟨_,rfl,hown2,below_grown hB hs1 hgr2 (fun q hq=>(hbk q hq).1) (Nat.le_refl _)⟩
def tabG (sign:UInt8)(either:Bool)(n:Int):Nat→(Int→Int→Int)→Rs→(Int→Int→Int)×Rs
 |0,M,s=>(M,s)
 |f+1,M,s=>
  if s.more=false then(M,s)
  else
   let p:=s.line sign n
   if p.2.e≠0 then(M,p.2)
   else if 50<M (lo either p.1) (hi either p.1)+p.1.m then(M,p.2.fail 5 p.1.pl)
   else tabG sign either n f (addM M (lo either p.1) (hi either p.1) p.1.m) p.2
def rowOfM (M:Int→Int→Int)(a:Nat)(n:Nat):List E:=(List.range n).flatMap fun(b:Nat)=>if M (a:Int) (b:Int)=0 then[]else[⟨(a:Int),(b:Int),M (a:Int) (b:Int)⟩]
def esOfM (M:Int→Int→Int)(n:Nat):List E:=(List.range n).flatMap fun(a:Nat)=>rowOfM M a n
theorem numOf_snoc (l:List UInt8)(k:Nat)(hk:k<l.length):numOf (l.take (k+1))=10*numOf (l.take k)+(l[k].toNat-48):=by
 unfold numOf;rw[List.take_succ_eq_append_getElem hk,List.foldl_append];rfl
theorem numOf_take (l:List UInt8)(k:Nat):numOf (l.take k)≤numOf l:=by
 have:=numFrom_ge (l.drop k) (numOf (l.take k));have e:numOf l=numFrom (numOf (l.take k)) (l.drop k):=by
  unfold numFrom;conv=>lhs;rw[← List.take_append_drop k l]
  unfold numOf;rw[List.foldl_append]
 omega
theorem natB_eq (l:List UInt8):natB l=((!l.isEmpty&&l.all isDig)&& !(decide (1<l.length)&&decide (l.head? =some 48))):=by
 unfold natB;cases l with
 |nil=>rfl
 |cons c r=>
  rw[Bool.eq_iff_iff]
  simp
  intro _ _
  exact or_comm
theorem r_Natural (l:List UInt8)(w:World)(hl:l.length≤4096):
 Calls Tryz.prog 308 #[.string (str l)] w fun e w'=>e= .returned (.tuple #[.int .i64 (natR l).1,.int .i64 (natR l).2])∧w'=w:=by
 have hd:=hid (r_digits l w (by omega));have hb:=natB_eq l;unfold natR;cases hdg:(!l.isEmpty&&l.all isDig)with
 |false=>
  rw[hdg]at hb hd
  rw[hb,Bool.false_and,if_pos rfl]
  clear hb hdg
  go_enter Tryz.func308,Tryz.ntmps308
  go_wp2_with fail
  refine hd.out.mono ?_
  rintro e w1 ⟨rfl,rfl⟩
  dsimp only
  go_wp2_with fail
  go_ret2
  exact⟨rfl,rfl⟩
 |true=>
  rw[hdg]at hb hd
  have h0:0<l.length:=by cases l with|nil=>simp at hdg|cons=>simp
  have hall:l.all isDig=true:=by simp only[Bool.and_eq_true]at hdg;exact hdg.2
  have hs0:0<(str l).size:=by rw[str_size];exact h0
  have e0:(str l)[0]'hs0=l[0]:=rfl
  have hhd:l.head? =some l[0]:=by cases l with|nil=>simp at h0|cons=>rfl
  have hsz:(str l).size=l.length:=str_size l
  by_cases hbad:1<l.length∧l.head? =some 48
  ·rw[show decide (1<l.length)=true from decide_eq_true hbad.1,show decide (l.head? =some 48)=true from decide_eq_true hbad.2]at hb
   rw[hb,if_pos (by rfl)];have h1:(1:Int)<((str l).size:Int):=by rw[str_size];omega
   have h48:(((((str l)[0]'hs0).toNat:Nat):Int)==48)=true:=by
    rw[e0];have:=hbad.2;rw[hhd]at this;rw[Option.some.inj this];rfl
   clear hb hdg hall e0 hhd hsz hbad;go_enter Tryz.func308,Tryz.ntmps308;go_wp2_with fail;refine hd.out.mono ?_;rintro e w1 ⟨rfl,rfl⟩;dsimp only;go_wp2_with fail;go_ret2;exact⟨rfl,rfl⟩
  ·have hnb:natB l=true:=by
    rw[hb];by_cases q:1<l.length
    ·have:¬l.head? =some 48:=fun h=>hbad ⟨q,h⟩
     simp[q,this]
    ·simp[q]
   rw[if_neg (by rw[hnb];decide)];have HALL:=hid hall;have HSZ:=hid hsz;have hwalk:∀(h48:1<l.length→(((((str l)[0]'hs0).toNat:Nat):Int)==48)=false),Calls Tryz.prog 308 #[.string (str l)] w fun e w'=>e= .returned (.tuple #[.int .i64 (if 1099511627776<numOf l then((0:Int),(11:Int))else((numOf l:Int),0)).1,.int .i64 (if 1099511627776<numOf l then((0:Int),(11:Int))else((numOf l:Int),0)).2])∧w'=w:=by
    intro h48;obtain⟨z,hz⟩:∃z:Int×Int,z=(if 1099511627776<numOf l then((0:Int),(11:Int))else((numOf l:Int),0)):=⟨_,rfl⟩;rw[← hz];have HZ:=hid hz;by_cases h1:1<l.length
    all_goals
     have h1':(1:Int)<((str l).size:Int)∨¬(1:Int)<((str l).size:Int):=by omega
     have h1i:=show(if 1<l.length then(1:Int)<((str l).size:Int)else ¬(1:Int)<((str l).size:Int)) by rw[hsz];split<;>omega
     first|rw[if_pos h1]at h1i|rw[if_neg h1]at h1i
     first|have h4:=h48 h1|skip
     clear hb hdg hall e0 hhd hsz hbad hnb hz h48 h1 h1'
     go_enter Tryz.func308,Tryz.ntmps308
     go_wp2_with fail
     refine hd.out.mono ?_
     rintro e w1 ⟨rfl,rfl⟩
     dsimp only
     go_wp2_with fail
     go_loop [4,5] (fun n i=>∃k:Nat,k≤l.length∧i= .int .i64 k∧n= .int .i64 (numOf (l.take k))∧numOf (l.take k)≤1099511627776) (fun _ i=>l.length-(intOf i).toNat)
     case atStart=>exact⟨0,Nat.zero_le _,rfl,rfl,by simp[numOf]⟩
     case round=>
      obtain⟨k,hk,rfl,rfl,hm⟩:=hrel;have HS2:=HSZ.out;by_cases hlt:k<l.length
      ·have hks:k<(str l).size:=by omega
       have hkl:(k:Int)<((str l).size:Int):=by omega
       have hk0:(0:Int)≤(k:Int):=by omega
       have ha:=List.all_eq_true.1 HALL.out l[k] (List.getElem_mem hlt);have hdd:=digs (show isDig ((str l)[k]'hks)=true from ha);have hsn:numOf (l.take (k+1))=10*numOf (l.take k)+(((str l)[k]'hks).toNat-48):=numOf_snoc l k hlt;have hmt:=numOf_take l (k+1);have HSN:=hid hsn;have HMT:=hid hmt;clear ha hsn hmt HS2;generalize numOf (l.take k)=v at*
       have h256:((((str l)[k]'hks).toNat:Int)-48)%256=(((str l)[k]'hks).toNat:Int)-48:=by omega
       by_cases hbig:(1099511627776:Int)<10*(v:Int)+((((str l)[k]'hks).toNat:Int)-48)
       ·have HB:=hid hbig
        have HD:=hid hdd;clear hdd;go_wp2_with fail;go_ret2;rw[HZ.out,if_pos (by have:=HSN.out;have:=HMT.out;have:=HB.out;have:=HD.out;omega)];exact⟨rfl,rfl⟩
       ·have HB:=hid hbig
        have HD:=hid hdd;clear hdd;go_wp2_with fail;go_round;case rel=>exact⟨k+1,by omega,by go_num,by rw[HSN.out];congr 1;have:=HD.out;omega,by rw[HSN.out];have:=HB.out;have:=HD.out;omega⟩
        case measure=>simp[intOf];omega
      ·obtain rfl:k=l.length:=by omega
       have hkl:¬(l.length:Int)<((str l).size:Int):=by omega
       rw[List.take_length]at hm⊢;have HM:=hid hm;generalize numOf l=v at*
       clear hm HS2;go_wp2_with fail;go_ret2;rw[HZ.out,if_neg (by have:=HM.out;omega)];exact⟨rfl,rfl⟩
   refine hwalk fun q=> ?_;rw[e0];have:¬l.head? =some 48:=fun h=>hbad ⟨q,h⟩;rw[hhd]at this;have h2:l[0]≠48:=fun e=>this (by rw[e]);have h3:l[0].toNat≠48:=fun e=>h2 (by rw[← UInt8.toNat_inj];exact e);simp only[beq_eq_false_iff_ne,ne_eq];omega
theorem more_e {s:Rs}(h:s.more=true):s.e=0∧s.now.kind≠3:=by
 unfold Rs.more at h;simpa using h
theorem ltE_asym {x y:E}(h:ltE x y.a y.b=true):ltE y x.a x.b=false:=by
 cases hh:ltE y x.a x.b with
 |false=>rfl
 |true=>unfold ltE at h hh;simp at h hh;omega
theorem tab_eq (sign:UInt8)(either:Bool)(n:Int):∀f (es:List E) (M:Int→Int→Int) (s:Rs),TsOk s.ts→RelM n es M→
 (tabG sign either n f M s).2=(tabL sign either n f es s).2∧((tabL sign either n f es s).2.e=0→RelM n (tabL sign either n f es s).1 (tabG sign either n f M s).1)
 |0,es,M,s,_,h=>⟨rfl,fun _=>h⟩
 |f+1,es,M,s,ht,h=>by
  unfold tabG tabL;cases hm:s.more with
  |false=>rw[if_pos rfl,if_pos rfl];exact⟨rfl,fun _=>h⟩
  |true=>
   simp only[Bool.true_eq_false,if_false]
   have hl:=line_ts ht sign n
   generalize s.line sign n=p at*
   obtain⟨x,s2⟩:=p
   dsimp only at hl⊢
   by_cases he:s2.e≠0
   ·rw[if_pos he,if_pos he];exact⟨rfl,fun h=>absurd h he⟩
   ·rw[if_neg he,if_neg he]
    have he':s2.e=0:=by omega
    obtain⟨_,a1,a2,b1,b2,m1,m2⟩:=hl.2.2 he';have ha:0≤lo either x∧lo either x<n:=by unfold lo;split<;>omega
    have hb:0≤hi either x∧hi either x<n:=by unfold hi;split<;>omega
    obtain⟨T,D,_,_,hin,_,_⟩:=addE_split h.s (lo either x) (hi either x) x.m;rw[hin,h.m];by_cases h50:50<M (lo either x) (hi either x)+x.m
    ·rw[if_pos h50,if_pos h50]
     exact⟨rfl,fun h=>(fail_e (by decide) h).elim⟩
    ·rw[if_neg h50,if_neg h50]
     exact tab_eq sign either n f _ _ s2 hl.1 (h.add ha hb m1 (by omega))
theorem sorted_ext:∀{A B:List E},(A.Pairwise fun x y=>ltE x y.a y.b=true)→(B.Pairwise fun x y=>ltE x y.a y.b=true)→(∀ x,x∈A↔x∈B)→A=B
 |[],[],_,_,_=>rfl
 |[],y::B,_,_,h=>by have:=(h y).2 (by simp);cases this
 |x::A,[],_,_,h=>by have:=(h x).1 (by simp);cases this
 |x::A,y::B,hA,hB,h=>by
  have a1:=List.pairwise_cons.1 hA;have b1:=List.pairwise_cons.1 hB;have e:x=y:=by
   rcases List.mem_cons.1 ((h x).1 (by simp))with e|e
   ·exact e
   ·rcases List.mem_cons.1 ((h y).2 (by simp))with e2|e2
    ·exact e2.symm
    ·have h1:=ltE_asym (b1.1 x e)
     rw[a1.1 y e2]at h1;cases h1
  subst e;congr 1;refine sorted_ext a1.2 b1.2 (fun z=>⟨fun hz=> ?_,fun hz=> ?_⟩)
  ·rcases List.mem_cons.1 ((h z).1 (by simp[hz]))with e|e
   ·subst e;exact absurd (a1.1 z hz) (fun h=>ltE_irr h ⟨rfl,rfl⟩)
   ·exact e
  ·rcases List.mem_cons.1 ((h z).2 (by simp[hz]))with e|e
   ·subst e;exact absurd (b1.1 z hz) (fun h=>ltE_irr h ⟨rfl,rfl⟩)
   ·exact e
theorem mem_row {M:Int→Int→Int}{a n:Nat}{x:E}:x∈rowOfM M a n↔∃b:Nat,b<n∧M a b≠0∧x=⟨a,b,M a b⟩:=by
 unfold rowOfM;rw[List.mem_flatMap];constructor
 ·rintro⟨b,hb,hx⟩
  by_cases h:M (a:Int) (b:Int)=0
  ·rw[if_pos h]at hx;cases hx
  ·rw[if_neg h]at hx
   exact⟨b,List.mem_range.1 hb,h,by simpa using hx⟩
 ·rintro⟨b,hb,h,rfl⟩
  exact⟨b,List.mem_range.2 hb,by rw[if_neg h];simp⟩
theorem mem_esOf {M:Int→Int→Int}{n:Nat}{x:E}:x∈esOfM M n↔∃a b:Nat,a<n∧b<n∧M a b≠0∧x=⟨a,b,M a b⟩:=by
 unfold esOfM;rw[List.mem_flatMap];constructor
 ·rintro⟨a,ha,hx⟩
  obtain⟨b,h1,h2,h3⟩:=mem_row.1 hx;exact⟨a,b,List.mem_range.1 ha,h1,h2,h3⟩
 ·rintro⟨a,b,h0,h1,h2,h3⟩
  exact⟨a,List.mem_range.2 h0,mem_row.2 ⟨b,h1,h2,h3⟩⟩
theorem row_sorted (M:Int→Int→Int)(a n:Nat):(rowOfM M a n).Pairwise fun x y=>ltE x y.a y.b=true:=by
 unfold rowOfM;rw[List.pairwise_flatMap];refine⟨fun b _=> ?_,?_⟩
 ·split
  ·exact List.Pairwise.nil
  ·exact List.pairwise_singleton _ _
 ·refine List.pairwise_lt_range.imp (fun {b c} hbc x hx y hy=> ?_)
  split at hx
  ·cases hx
  ·split at hy
   ·cases hy
   ·obtain rfl:=List.mem_singleton.1 hx
    obtain rfl:=List.mem_singleton.1 hy;unfold ltE;simp;omega
theorem esOf_sorted (M:Int→Int→Int)(n:Nat):(esOfM M n).Pairwise fun x y=>ltE x y.a y.b=true:=by
 unfold esOfM;rw[List.pairwise_flatMap];refine⟨fun a _=>row_sorted M a n,?_⟩;refine List.pairwise_lt_range.imp (fun {a c} hac x hx y hy=> ?_);obtain⟨_,_,_,rfl⟩:=mem_row.1 hx;obtain⟨_,_,_,rfl⟩:=mem_row.1 hy;unfold ltE;simp;omega
theorem bet_of_mem:∀{es:List E},(es.Pairwise fun x y=>ltE x y.a y.b=true)→∀x∈es,bet x.a x.b es=x.m
 |[],_,x,hx=>by cases hx
 |y::es,h,x,hx=>by
  have h1:=List.pairwise_cons.1 h;unfold bet;by_cases e:y.a=x.a∧y.b=x.b
  ·rw[if_pos e]
   rcases List.mem_cons.1 hx with rfl|hx
   ·rfl
   ·exact absurd e (ltE_irr (h1.1 x hx))
  ·rw[if_neg e]
   rcases List.mem_cons.1 hx with rfl|hx
   ·exact absurd ⟨rfl,rfl⟩ e
   ·exact bet_of_mem h1.2 x hx
theorem mem_of_bet {a b:Int}:∀{es:List E},bet a b es≠0→(⟨a,b,bet a b es⟩:E)∈es
 |[],h=>absurd rfl h
 |y::es,h=>by
  unfold bet at h⊢;by_cases e:y.a=a∧y.b=b
  ·rw[if_pos e]at h⊢
   obtain⟨rfl,rfl⟩:=e;simp
  ·rw[if_neg e]at h⊢
   exact List.mem_cons_of_mem _ (mem_of_bet h)
theorem RelM.eq {n:Int}{es:List E}{M:Int→Int→Int}(h:RelM n es M):es=esOfM M n.toNat:=by
 have hs:=(sorted_iff es).1 h.s;refine sorted_ext hs (esOf_sorted M _) (fun x=>⟨fun hx=> ?_,fun hx=> ?_⟩)
 ·have hr:=h.r x hx
  have hb:=bet_of_mem hs x hx;rw[h.m]at hb;have ea:((x.a.toNat:Nat):Int)=x.a:=by omega
  have eb:((x.b.toNat:Nat):Int)=x.b:=by omega
  refine mem_esOf.2 ⟨x.a.toNat,x.b.toNat,by omega,by omega,?_,?_⟩
  ·rw[ea,eb,hb];omega
  ·rw[ea,eb,hb]
 ·obtain⟨a,b,h1,h2,h3,rfl⟩:=mem_esOf.1 hx
  rw[← h.m]at h3⊢;exact mem_of_bet h3
theorem str_app (a b:List UInt8):(str a)++(str b)=str (a++b):=by
 apply ByteArray.ext;simp[str]
theorem und_lists:Tryz.prog.underlying 244=some (.slice 29):=by kernel_rfl
theorem info_ints:(Tryz.prog.info? 29).map (fun i=>(i.zero,i.size,i.bytes))=some (some (.slice none 0 0),1,24):=by kernel_rfl
theorem hnk {w:World}{base:Nat}{e:TypeId}{size:Nat}{v:Value}{n:Nat}{xs:List Value}(b:Nat)(h:w.ownsRow base e size v n xs)(hk:b<base):∀k,v.ownBlock=some k→some b≠some k:=fun k hk2 e=>by
 have:=(h.lt k hk2).1;simp at e;omega
theorem arcsT_len {sign:UInt8}{es:List E}:(∀ x∈es,lowE x)→(arcsT sign es).length≤9*es.length:=by
 induction es with
 |nil=>intro _;simp[arcsT]
 |cons x es ih=>
  intro h
  have h1:=arcT_low sign (h x (by simp))
  have h2:=ih (fun y hy=>h y (by simp[hy]))
  unfold arcsT at*
  rw[List.flatMap_cons,List.length_append,List.length_cons]
  omega
theorem readP_any {gs:List UInt8→Cmd}(hg:∀c,rightErr c=0→gs (textOf c)=c)(t:List UInt8):
 readP t=if 4096<t.length then(19,cmd0)else if (textR (gs t)).1≠0∨(textR (gs t)).2≠t then(4,cmd0)else(0,gs t):=by
 unfold readP;split
 ·rfl
 ·by_cases h1:(textR (guessP t)).1≠0∨(textR (guessP t)).2≠t
  ·rw[if_pos h1]
   by_cases h2:(textR (gs t)).1≠0∨(textR (gs t)).2≠t
   ·rw[if_pos h2]
   ·exfalso
    have ha:(textR (gs t)).1=0:=Classical.byContradiction fun h=>h2 (.inl h);have hb:(textR (gs t)).2=t:=Classical.byContradiction fun h=>h2 (.inr h);obtain⟨a1,a2,_⟩:=textR_ok ha;have:=guessP_text a1;rw[← a2,hb]at this;rw[this]at h1;exact h1.elim (fun h=>h ha) fun h=>h hb
  ·have ha:(textR (guessP t)).1=0:=Classical.byContradiction fun h=>h1 (.inl h)
   have hb:(textR (guessP t)).2=t:=Classical.byContradiction fun h=>h1 (.inr h);obtain⟨a1,a2,_⟩:=textR_ok ha;have:=hg _ a1;rw[← a2,hb]at this;rw[this,if_neg h1]
end Go.Proofs.YtclgllmipcbagaaGreatDoor
