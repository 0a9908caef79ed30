/-
  Parts of the proof: XN7
-/
import Derived.Shelf.Spec.SlicesInsert
import Derived.Lib.AppendZerosOnto
import Derived.Laws.CopyRow
import Derived.Test.YtclgllmipcbagaaGreatDoorBk09
namespace Go.Proofs.YtclgllmipcbagaaGreatDoor
set_option linter.unusedVariables false
set_option linter.unusedSimpArgs false
set_option maxRecDepth 100000
set_option maxHeartbeats 16000000
open Go.RowKit
theorem run_copy_rowK {P:Program}(w:World)(dT sT ty elem:TypeId)(k:Nat)(g o dLen dCap:Nat)(a:Addr)(sLen sCap:Nat)(cur:Array Value)(t:TypeId)(cs:List Value)
 (hu:P.underlying dT=some (.slice elem)) (hs:(P.info? elem).map (·.size)=some k)
 (hg:w.heap[g]? =some (.cells cur t (0,0))) (hn:cs.length=Nat.min sLen dLen*k)
 (hsrc:∀j v,cs[j]? =some v→w.cell? (a.add j)=some v) (hfit:o+cs.length≤cur.size) (h1:∀v∈cs,v.oneCell'=true):
 (Builtin.copy_ #[dT,sT] ty #[.slice (some ⟨g,o,none⟩) dLen dCap,.slice (some a) sLen sCap]).run P w=
   .ok (goInt (Nat.min sLen dLen)) (w.setRow g (cur.toList.take o++cs++cur.toList.drop (o+cs.length)).toArray):=by
 have hl:=run_loadCells_list (P:=P) w a cs hsrc;have hst:=run_storeCells_at P g o t cs 0 cur w hg (by simpa using hfit) h1;cases hq:P.info? elem with
 |none=>simp[hq]at hs
 |some i=>
  have hi:i.size=k:=by simpa[hq]using hs
  simp[Builtin.copy_,run_underlying hu,Builtin.lenOf,Builtin.firstCells,Go.sizeOf,typeInfo,hq,hi,←hn,hl,hst]
theorem und_lines:Tryz.prog.underlying 226=some (.slice 293):=by kernel_rfl
theorem info_line:(Tryz.prog.info? 293).map (fun i=>(i.zero,i.size,i.bytes))=some (some (.agg #[.int .i64 0,.int .i64 0,.int .i64 0,.int .i64 0]),4,32):=by kernel_rfl
theorem size_line:(Tryz.prog.info? 293).map (·.size)=some 4:=by kernel_rfl
def RetIns (w:World)(base:Nat)(v:Value)(n:Nat)(ys:List Value)(e:Ending)(w':World):Prop:=
 ∃v',e= .returned v'∧w'.ownsRow base 293 4 v' n ys∧w.grownBy w' v.ownBlock
theorem c_Insert_end (w:World)(base:Nat)(v:Value)(n:Nat)(xs:List Value)(u0 u1 u2 u3:Value)(nb:Nat)(hown:w.ownsRow base 293 4 v n xs)(hn:n≤100000)
 (hnew:Blk w nb #[u0,u1,u2,u3] 293) (h1:∀u∈[u0,u1,u2,u3],u.oneCell'=true) (hbase:base≤w.heap.size):
 Calls Tryz.prog 236 #[v,.int .i64 n,.slice (some ⟨nb,0,none⟩) 1 1] w (RetIns w base v (n+1) (xs++[u0,u1,u2,u3])):=by
 obtain⟨i0,hi,hz0,hz1,hz2⟩:=info_parts info_line;have hnews:∀j u,[u0,u1,u2,u3][j]? =some u→w.cell? ((⟨nb,0,none⟩:Addr).add j)=some u:=fun j u hj=>by
  rw[Addr.add_lit,Nat.zero_add,hnew.cell j];simpa using hj
 obtain⟨a,cap,rfl⟩:∃a cap,v= .slice a n cap:=by
  rcases hown.2 with ⟨h,rfl⟩|⟨g,cap,_,h,_⟩
  ·exact⟨none,0,h⟩
  ·exact⟨_,cap,h⟩
 have HN:=hid hnews;have HO:=hid hown;have H1:=hid h1;have hnc:n≤cap:=by
  rcases hown.2 with ⟨h,rfl⟩|⟨g,cap',_,h,_,_,h2,_⟩
  ·exact Nat.zero_le _
  ·injection h with _ _ h;omega
 have hcm:cap≤9223372036854775807:=by
  rcases hown.2 with ⟨h,rfl⟩|⟨g,cap',_,h,_,_,h2,h3,_⟩
  ·injection h with _ _ h;omega
  ·injection h with _ _ h;unfold maxLen at h3;omega
 clear hnews hown h1 hnew;by_cases hcn:cap=n
 ·subst hcn
  go_enter Tryz.func236,Tryz.ntmps236;go_wp2_with (at_builtin;refine wpList_append_own _ rfl _ _ 226 rfl base 293 i0 (.agg #[.int .i64 0,.int .i64 0,.int .i64 0,.int .i64 0]) 4 32 und_lines hi hz0 hz1 hz2 rfl (by decide) _ _ _ rfl HO.out ⟨nb,0,none⟩ 1 1 [u0,u1,u2,u3] rfl rfl HN.out H1.out ?c3x ?c4x ?c5x ?_);case c3x=>unfold maxLen;omega
  case c4x=>omega
  case c5x=>exact hbase
  intro v' w1 hown' hgrow _;have HO2:=hid hown';have HG:=hid hgrow;clear hown' hgrow;go_wp2_with fail;go_ret;exact⟨v',rfl,HO2.out,HG.out⟩
 ·have hcn':¬n=cap:=fun e=>hcn e.symm
  go_enter Tryz.func236,Tryz.ntmps236;go_wp2_with (at_builtin;refine wpList_append_own _ rfl _ _ 226 rfl base 293 i0 (.agg #[.int .i64 0,.int .i64 0,.int .i64 0,.int .i64 0]) 4 32 und_lines hi hz0 hz1 hz2 rfl (by decide) _ _ _ rfl HO.out ⟨nb,0,none⟩ 1 1 [u0,u1,u2,u3] rfl rfl HN.out H1.out ?c3y ?c4y ?c5y ?_);case c3y=>unfold maxLen;omega
  case c4y=>omega
  case c5y=>exact hbase
  intro v' w1 hown' hgrow _;have HO2:=hid hown';have HG:=hid hgrow;clear hown' hgrow;go_wp2_with fail;go_ret;exact⟨v',rfl,HO2.out,HG.out⟩
theorem ins_list (C:List Value)(n i:Nat)(new:List Value)(hi:i<n)(hn:new.length=4)(hC:n*4+4≤C.length)(xs:List Value)(hx:C.take (n*4)=xs):
 ∀C1 C2,C1=C.take ((i+1)*4)++xs.drop (i*4)++C.drop ((i+1)*4+(xs.drop (i*4)).length)→C2=C1.take (i*4)++new++C1.drop (i*4+new.length)→
  C2.length=C.length∧C2.take ((n+1)*4)=xs.take (i*4)++new++xs.drop (i*4):=by
 rintro C1 C2 h1 h2;have hxl:xs.length=n*4:=by rw[← hx,List.length_take];omega
 have hdl:(xs.drop (i*4)).length=n*4-i*4:=by rw[List.length_drop,hxl]
 have e1:C1.take (i*4)=xs.take (i*4):=by
  rw[h1,List.append_assoc,List.take_append_of_le_length (by rw[List.length_take];omega),List.take_take,Nat.min_eq_left (by omega),←hx,List.take_take,Nat.min_eq_left (by omega)]
 have e2:C1.drop (i*4+new.length)=xs.drop (i*4)++C.drop ((i+1)*4+(xs.drop (i*4)).length):=by
  rw[h1,List.append_assoc,List.drop_append,List.drop_eq_nil_of_le (by rw[List.length_take];omega),List.length_take,List.nil_append,hn,Nat.min_eq_left (by omega),show i*4+4-(i+1)*4=0 by omega];rfl
 have hil:(xs.take (i*4)).length=i*4:=by rw[List.length_take];omega
 rw[h2,e1,e2];constructor
 ·simp only[List.length_append,List.length_drop,hil,hn,hxl];omega
 ·rw[← List.append_assoc,List.take_append_of_le_length (by simp only[List.length_append,hil,hn,hdl];omega),List.take_of_length_le (by simp only[List.length_append,hil,hn,hdl];omega)]
theorem c_Insert_room (w:World)(base g cap n i:Nat)(xs:List Value)(u0 u1 u2 u3:Value)(nb:Nat)(hown:w.ownsRow base 293 4 (.slice (some ⟨g,0,none⟩) n cap) n xs)(hn:n≤100000)(hi:i<n)(hroom:n+1≤cap)
 (hnew:Blk w nb #[u0,u1,u2,u3] 293) (h1:∀u∈[u0,u1,u2,u3],u.oneCell'=true) (h1x:∀u∈xs,u.oneCell'=true) (hne:nb≠g):
 Calls Tryz.prog 236 #[.slice (some ⟨g,0,none⟩) n cap,.int .i64 i,.slice (some ⟨nb,0,none⟩) 1 1] w (RetIns w base (.slice (some ⟨g,0,none⟩) n cap) (n+1) (xs.take (i*4)++[u0,u1,u2,u3]++xs.drop (i*4))):=by
 have hxl:=hown.1;obtain⟨hbg,hg,hcm,hcs,hcx⟩:base≤g∧(∃ cur,w.heap[g]? =some (.cells cur 293 (0,0))∧cur.size=cap*4∧cur.toList.take (n*4)=xs)∧cap≤9223372036854775807∧True∧True:=by
  rcases hown.2 with ⟨h,_⟩|⟨g',cap',cur,h,h2,h3,h4,h5,h6,h7⟩
  ·cases h
  ·injection h with h _ hc
   injection h with h
   injection h with h
   subst h hc;exact⟨h2,⟨cur,h3,h6,h7⟩,by unfold maxLen at h5;omega,trivial,trivial⟩
 obtain⟨cur,hg,hcs,hcx⟩:=hg;have hnews:∀j u,[u0,u1,u2,u3][j]? =some u→w.cell? ((⟨nb,0,none⟩:Addr).add j)=some u:=fun j u hj=>by
  rw[Addr.add_lit,Nat.zero_add,hnew.cell j];simpa using hj
 have hcl:cur.toList.length=cap*4:=by simpa using hcs
 have hdl:(xs.drop (i*4)).length=(n-i)*4:=by rw[List.length_drop,hxl];omega
 have hsa:w.shape? nb=some (293,4):=by unfold World.shape?;rw[hnew];rfl
 have hsb:w.shape? g=some (293,cap*4):=by unfold World.shape?;rw[hg];simp[hcs]
 have hov:∀lb cb,(callFunc 297 #[.slice (some ⟨nb,0,none⟩) 1 1,.slice (some ⟨g,(i+1)*4,none⟩) lb cb]).run Tryz.prog w= .ok (.value (.bool false)) w:=fun lb cb=>by
  rw[run_callFunc_extern Tryz.func297 (by kernel_rfl) (by kernel_rfl) (by kernel_rfl) (e:=Extern.SlicesOverlaps.overlaps #[226,226] #[4]) (by kernel_rfl),
   Lib.run_overlaps_apart w 226 4 293 und_lines 4 (fun _=>by kernel_rfl) ⟨nb,0,none⟩ ⟨g,(i+1)*4,none⟩ 1 1 lb cb hne _ _ 4 (cap*4) hsa hsb (by omega) (hnew.frozen 0) (hnew.frozen 4)]
  rfl
 have hcell:∀k,w.cell? ⟨g,k,none⟩=cur.toList[k]? :=fun k=>by simp[World.cell?,hg]
 obtain⟨C1,hC1⟩:∃C1,C1=cur.toList.take ((i+1)*4)++xs.drop (i*4)++cur.toList.drop ((i+1)*4+(xs.drop (i*4)).length):=⟨_,rfl⟩;obtain⟨C2,hC2⟩:∃C2,C2=C1.take (i*4)++[u0,u1,u2,u3]++C1.drop (i*4+[u0,u1,u2,u3].length):=⟨_,rfl⟩;obtain⟨l2,t2⟩:=ins_list cur.toList n i [u0,u1,u2,u3] hi rfl (by omega) xs hcx C1 C2 hC1 hC2;have hC1l:C1.length=cap*4:=by
  rw[hC1];simp only[List.length_append,List.length_take,List.length_drop,hdl,hcl,hxl];omega
 have hcp1:∀(W:World),W.heap=w.heap→∀ty dc sc,(Builtin.copy_ #[226,226] ty #[.slice (some ⟨g,(i+1)*4,none⟩) (n-i) dc,.slice (some ⟨g,i*4,none⟩) (n+1-i) sc]).run Tryz.prog W= .ok (goInt (n-i)) (W.setRow g C1.toArray):=fun W hW ty dc sc=>by
  have:=run_copy_rowK (P:=Tryz.prog) W 226 226 ty 293 4 g ((i+1)*4) (n-i) dc ⟨g,i*4,none⟩ (n+1-i) sc cur _ (xs.drop (i*4)) und_lines size_line (by rw[hW];exact hg)
   (by rw[hdl];simp only[Nat.min_def];split<;>omega)
   (fun j v hj=>by
     have hwc:W.cell? ((⟨g,i*4,none⟩:Addr).add j)=w.cell? ((⟨g,i*4,none⟩:Addr).add j):=by simp[World.cell?,hW]
     rw[hwc,Addr.add_lit,hcell];rw[List.getElem?_drop,←hcx,List.getElem?_take]at hj;split at hj
     ·exact hj
     ·cases hj) (by rw[hdl];omega) (fun v hv=>h1x v (List.mem_of_mem_drop hv))
  rw[this,hC1];congr 2;simp only[Nat.min_def];split<;>omega
 have hcp2:∀(W:World),W.heap[g]? =some (.cells C1.toArray 293 (0,0))→(∀ k,W.cell? ⟨nb,k,none⟩=w.cell? ⟨nb,k,none⟩)→∀ty dc,(Builtin.copy_ #[226,226] ty #[.slice (some ⟨g,i*4,none⟩) (n+1-i) dc,.slice (some ⟨nb,0,none⟩) 1 1]).run Tryz.prog W= .ok (goInt 1) (W.setRow g C2.toArray):=fun W hW hWn ty dc=>by
  have:=run_copy_rowK (P:=Tryz.prog) W 226 226 ty 293 4 g (i*4) (n+1-i) dc ⟨nb,0,none⟩ 1 1 C1.toArray _ [u0,u1,u2,u3] und_lines size_line hW
   (by simp only[List.length_cons,List.length_nil,Nat.min_def];split<;>omega)
   (fun j v hj=>by
     have:=hnews j v hj;rw[Addr.add_lit]at this⊢;rw[hWn];exact this) (by simp only[List.size_toArray,List.length_cons,List.length_nil,hC1l];omega) h1
  rw[this,hC2];congr 2;simp only[Nat.min_def];split<;>omega
 have HG0:=hid hg;have HT2:=hid t2;have HL2:Hid (C2.length=cap*4):=by show _=_;rw[l2,hcl]
 have HBG:=hid hbg;have hgl:g<w.heap.size:=(Array.getElem?_eq_some_iff.1 hg).1;have hgl':=hid hgl;have hz2:¬((i:Int)=(n:Int)):=by omega
 have hz2b:((i:Int)==(n:Int))=false:=by simp;omega
 have hw1:IntKind.i64.wrap ((i:Int)+1)=(i:Int)+1:=IntWalk.i64_in _ (by omega);have hw2:IntKind.i64.wrap ((n:Int)+1)=(n:Int)+1:=IntWalk.i64_in _ (by omega);have hin:i≤n:=by omega
 have hinI:(i:Int)≤(n:Int):=by omega
 have hnc:n≤cap:=by omega
 have htn:((i:Int)+1).toNat=i+1:=by omega
 have htn2:((n:Int)+1).toNat=n+1:=by omega
 have hb2:¬(cap=i+1):=by omega
 have hb4:¬(cap=i):=by omega
 have hrI:¬((cap:Int)<(n:Int)+1):=by omega
 have hrJ:(n:Int)+1≤(cap:Int):=by omega
 have hb3:(i:Int)≤(n:Int)+1:=by omega
 have hb5:(i:Int)+1≤(n:Int)+1:=by omega
 have h0i:(0:Int)≤(i:Int)+1:=by omega
 have h0i2:(0:Int)≤(i:Int):=by omega
 clear hown hxl hcs hcx hcl hdl hsa hsb hcell hC1 hC2 l2 t2 hC1l hnews hnew h1 h1x hbg hg hgl;go_enter Tryz.func236,Tryz.ntmps236;go_wp2_with (simp only[hov]);let S:World→Prop:=fun w'=>True
 (refine wp_region_text 8 [0,1,2,3,4,5,6,7] S (by kernel_rfl) (by kernel_rfl) (by intro _ _ d _ _ h;cases d<;>exact h) ?hS ?_;rotate_left;simp only[xA,xB,xC,xD,xE,xF]);case hS=>exact True.intro
 (repeat ((refine' wpSeq_take rfl _ (by rfl) ?_ ?_;rotate_left;focus(intro w' hS;(try dsimp only at hS);skip;go_simp;(first|done|with_reducible rfl));(try go_frame));(try go_frame)));refine wpSeq_nil ?_;clear S;have q1:=hcp1 w.drew rfl;have q2:=hcp2 (w.drew.setRow g C1.toArray) (setRow_heap w.drew g cur _ _ _ HG0.out) (fun k=>World.cell?_of_block (a:=⟨nb,k,none⟩) (setRow_other w.drew g nb _ hne));have HW:Hid ((((w.drew.setRow g C1.toArray).setRow g C2.toArray)).ownsRow base 293 4 (.slice (some ⟨g,0,none⟩) (n+1) cap) (n+1) (xs.take (i*4)++[u0,u1,u2,u3]++xs.drop (i*4))):=by
  refine⟨?_,.inr ⟨g,cap,C2.toArray,rfl,HBG.out,setRow_heap _ g _ _ _ _ (setRow_heap w.drew g cur _ _ _ HG0.out),by omega,by unfold maxLen;omega,by simpa using HL2.out,by simpa using HT2.out⟩⟩;rw[← HT2.out,List.length_take,HL2.out];omega
 have HGR:Hid (w.grownBy ((w.drew.setRow g C1.toArray).setRow g C2.toArray) (some g)):=
  ⟨rfl,rfl,rfl,by simp,fun k hk hne'=>by rw[setRow_other _ _ _ _ (fun e=>hne' (by rw[e])),setRow_other _ _ _ _ (fun e=>hne' (by rw[e]))];rfl⟩
 clear hcp1 hcp2;go_wp2_with fail;go_ret;exact⟨_,rfl,HW.out,HGR.out⟩
theorem ins_list2 (C:List Value)(n i:Nat)(new:List Value)(hi:i<n)(hn:new.length=4)(hC:n*4+4≤C.length)(xs:List Value)(hxl:xs.length=n*4)(hx:C.take (i*4)=xs.take (i*4)):
 ∀C1 C2,C1=C.take (i*4)++new++C.drop (i*4+new.length)→C2=C1.take ((i+1)*4)++xs.drop (i*4)++C1.drop ((i+1)*4+(xs.drop (i*4)).length)→
  C1.length=C.length∧C2.length=C.length∧C2.take ((n+1)*4)=xs.take (i*4)++new++xs.drop (i*4):=by
 rintro C1 C2 h1 h2;have hdl:(xs.drop (i*4)).length=n*4-i*4:=by rw[List.length_drop,hxl]
 have hil:(xs.take (i*4)).length=i*4:=by rw[List.length_take];omega
 have l1:C1.length=C.length:=by
  rw[h1,hx];simp only[List.length_append,List.length_drop,hil,hn];omega
 have e1:C1.take ((i+1)*4)=xs.take (i*4)++new:=by
  rw[h1,hx,List.take_append_of_le_length (by simp only[List.length_append,hil,hn];omega),List.take_of_length_le (by simp only[List.length_append,hil,hn];omega)]
 refine⟨l1,?_,?_⟩
 ·rw[h2,e1];simp only[List.length_append,List.length_drop,hil,hn,hdl,l1,hxl];omega
 ·rw[h2,e1,List.take_append_of_le_length (by simp only[List.length_append,hil,hn,hdl];omega),List.take_of_length_le (by simp only[List.length_append,hil,hn,hdl];omega)]
theorem zero_size (z:Array Value)(k:Nat)(hz:z.size=4):(Builtin.zeroCells z k).size=k*4:=by
 rw[size_zeroCells,hz]
theorem c_Insert_grow (w:World)(base g n i:Nat)(xs:List Value)(u0 u1 u2 u3:Value)(nb:Nat)(hown:w.ownsRow base 293 4 (.slice (some ⟨g,0,none⟩) n n) n xs)(hn:n≤100000)(hi:i<n)
 (hnew:Blk w nb #[u0,u1,u2,u3] 293) (h1:∀u∈[u0,u1,u2,u3],u.oneCell'=true) (h1x:∀u∈xs,u.oneCell'=true) (hbase:base≤w.heap.size):
 Calls Tryz.prog 236 #[.slice (some ⟨g,0,none⟩) n n,.int .i64 i,.slice (some ⟨nb,0,none⟩) 1 1] w (RetIns w base (.slice (some ⟨g,0,none⟩) n n) (n+1) (xs.take (i*4)++[u0,u1,u2,u3]++xs.drop (i*4))):=by
 have hxl:=hown.1;obtain⟨cur,hg,hcs,hcx⟩:∃cur,w.heap[g]? =some (.cells cur 293 (0,0))∧cur.size=n*4∧cur.toList.take (n*4)=xs:=by
  rcases hown.2 with ⟨h,_⟩|⟨g',cap',cur,h,h2,h3,h4,h5,h6,h7⟩
  ·cases h
  ·injection h with h _ hc
   injection h with h
   injection h with h
   subst h hc;exact⟨cur,h3,h6,h7⟩
 have hcx':cur.toList=xs:=by rw[← hcx,List.take_of_length_le (by simp[hcs])]
 have hnews:∀j u,[u0,u1,u2,u3][j]? =some u→w.cell? ((⟨nb,0,none⟩:Addr).add j)=some u:=fun j u hj=>by
  rw[Addr.add_lit,Nat.zero_add,hnew.cell j];simpa using hj
 have hdl:(xs.drop (i*4)).length=(n-i)*4:=by rw[List.length_drop,hxl];omega
 have hil:(xs.take (i*4)).length=i*4:=by rw[List.length_take];omega
 have hcell:∀k,w.cell? ⟨g,k,none⟩=xs[k]? :=fun k=>by rw[← hcx'];simp[World.cell?,hg]
 obtain⟨i0,hi0,hz0,hzs,hzb⟩:=info_parts info_line;obtain⟨cap',hcap'⟩:∃c,c=grownCap w (i+(n+1-i)) n 293:=⟨_,rfl⟩;have hge:n+1≤cap':=by rw[hcap'];have:=grownCap_ge w (i+(n+1-i)) n 293;omega
 have hle:cap'≤9223372036854775807:=by rw[hcap'];have:=grownCap_le_maxLen w (i+(n+1-i)) n 293 (by unfold maxLen;omega);unfold maxLen at this;exact this
 obtain⟨Z,hZ⟩:∃Z:Array Value,Z=(Value.agg #[.int .i64 0,.int .i64 0,.int .i64 0,.int .i64 0]).cells:=⟨_,rfl⟩;have hZs:Z.size=4:=by rw[hZ];rfl
 obtain⟨C,hC⟩:∃C:Array Value,C=(xs.take (i*4)).toArray++Builtin.zeroCells Z (n+1-i)++Builtin.zeroCells Z (cap'-(i+(n+1-i))):=⟨_,rfl⟩;have hCl:C.toList.length=cap'*4:=by
  rw[hC];simp only[Array.length_toList,Array.size_append,zero_size Z _ hZs,List.size_toArray,hil];omega
 have hCt:C.toList.take (i*4)=xs.take (i*4):=by
  rw[hC];simp only[Array.toList_append];rw[List.append_assoc,List.take_append_of_le_length (by simp[hil]),List.take_of_length_le (by simp[hil])]
 have hold:(Builtin.firstCells i0.size i (.slice (some ⟨g,0,none⟩) i n)).run Tryz.prog w.drew= .ok (xs.take (i*4)).toArray w.drew:=by
  rw[hzs];refine run_firstCells_some w.drew 4 i ⟨g,0,none⟩ i n _ (by rw[hil]) (fun j v hj=> ?_);rw[Addr.add_lit,Nat.zero_add];show w.cell? _=_;rw[hcell];rw[List.getElem?_take]at hj;split at hj
  ·exact hj
  ·cases hj
 have hrun:∀ty,(Builtin.append_ #[226,3] ty #[.slice (some ⟨g,0,none⟩) i n,.int .i64 ((n+1-i:Nat):Int)]).run Tryz.prog w=
  .ok (.slice (some ⟨w.heap.size,0,none⟩) (n+1) cap') (w.drew.alloc (.cells C 293)):=fun ty=>by
  have:=Lib.run_append_grow_zeros (P:=Tryz.prog) w 226 3 ty 293 i0 _ .i64 .i64 und_lines (by kernel_rfl) hi0 hz0 (some ⟨g,0,none⟩) i n _ hold (n+1-i) (by omega) (by rw[hzs];decide) (by omega) (by omega) (by rw[hzb];omega) (by rw[hzb];exact growslice_fits (by omega) (by omega));rw[this,hC,hcap',hZ,show i+(n+1-i)=n+1 by omega]
 obtain⟨C1,hC1⟩:∃C1,C1=C.toList.take (i*4)++[u0,u1,u2,u3]++C.toList.drop (i*4+[u0,u1,u2,u3].length):=⟨_,rfl⟩;obtain⟨C2,hC2⟩:∃C2,C2=C1.take ((i+1)*4)++xs.drop (i*4)++C1.drop ((i+1)*4+(xs.drop (i*4)).length):=⟨_,rfl⟩;obtain⟨l1,l2,t2⟩:=ins_list2 C.toList n i [u0,u1,u2,u3] hi rfl (by omega) xs hxl hCt C1 C2 hC1 hC2;have hnbl:=hnew.lt;have hgl:g<w.heap.size:=(Array.getElem?_eq_some_iff.1 hg).1;have q1:∀ty dc,(Builtin.copy_ #[226,226] ty #[.slice (some ⟨w.heap.size,i*4,none⟩) (n+1-i) dc,.slice (some ⟨nb,0,none⟩) 1 1]).run Tryz.prog (w.drew.alloc (.cells C 293))= .ok (goInt 1) ((w.drew.alloc (.cells C 293)).setRow w.heap.size C1.toArray):=fun ty dc=>by
  have:=run_copy_rowK (P:=Tryz.prog) (w.drew.alloc (.cells C 293)) 226 226 ty 293 4 w.heap.size (i*4) (n+1-i) dc ⟨nb,0,none⟩ 1 1 C _ [u0,u1,u2,u3] und_lines size_line (heap_new w.drew _)
   (by simp only[List.length_cons,List.length_nil,Nat.min_def];split<;>omega)
   (fun j v hj=>by
     have h:=hnews j v hj;rw[Addr.add_lit]at h⊢;rw[World.cell?_of_block (w:=w) (a:=⟨nb,0+j,none⟩) (Below.heap_alloc w.drew _ nb hnbl)];exact h) (by simp only[List.length_cons,List.length_nil];rw[Array.length_toList]at hCl;omega) h1
  rw[this,hC1];congr 2;simp only[Nat.min_def];split<;>omega
 have q2:∀ty dc sc,(Builtin.copy_ #[226,226] ty #[.slice (some ⟨w.heap.size,(i+1)*4,none⟩) (n-i) dc,.slice (some ⟨g,i*4,none⟩) (n-i) sc]).run Tryz.prog ((w.drew.alloc (.cells C 293)).setRow w.heap.size C1.toArray).drew= .ok (goInt (n-i)) (((w.drew.alloc (.cells C 293)).setRow w.heap.size C1.toArray).drew.setRow w.heap.size C2.toArray):=fun ty dc sc=>by
  have:=run_copy_rowK (P:=Tryz.prog) ((w.drew.alloc (.cells C 293)).setRow w.heap.size C1.toArray).drew 226 226 ty 293 4 w.heap.size ((i+1)*4) (n-i) dc ⟨g,i*4,none⟩ (n-i) sc C1.toArray _ (xs.drop (i*4)) und_lines size_line (setRow_heap _ _ C _ _ _ (heap_new w.drew _))
   (by rw[hdl];simp only[Nat.min_def];split<;>omega)
   (fun j v hj=>by
     rw[Addr.add_lit]
     have e1:((w.drew.alloc (.cells C 293)).setRow w.heap.size C1.toArray).drew.cell? ⟨g,i*4+j,none⟩=w.cell? ⟨g,i*4+j,none⟩:=
      World.cell?_of_block (w:=w) (a:=⟨g,i*4+j,none⟩) ((setRow_other _ w.heap.size g _ (by omega)).trans (Below.heap_alloc w.drew _ g hgl))
     rw[e1,hcell];rwa[List.getElem?_drop]at hj) (by simp only[List.size_toArray,hdl,l1,hCl];omega) (fun v hv=>h1x v (List.mem_of_mem_drop hv))
  rw[this,hC2];congr 2;simp only[Nat.min_def];split<;>omega
 have HW:Hid ((((w.drew.alloc (.cells C 293)).setRow w.heap.size C1.toArray).drew.setRow w.heap.size C2.toArray).ownsRow base 293 4 (.slice (some ⟨w.heap.size,0,none⟩) (n+1) cap') (n+1) (xs.take (i*4)++[u0,u1,u2,u3]++xs.drop (i*4))):=by
  refine⟨?_,.inr ⟨w.heap.size,cap',C2.toArray,rfl,hbase,setRow_heap _ _ _ _ _ _ (setRow_heap _ _ C _ _ _ (heap_new w.drew _)),by omega,by unfold maxLen;omega,by simp only[List.size_toArray];omega,by simpa using t2⟩⟩;rw[← t2,List.length_take];omega
 have HGR:Hid (w.grownBy (((w.drew.alloc (.cells C 293)).setRow w.heap.size C1.toArray).drew.setRow w.heap.size C2.toArray) (some g)):=
  ⟨rfl,rfl,rfl,by simp,fun k hk _=>by
    rw[setRow_other _ _ _ _ (by omega)];show(World.setRow _ _ _).heap[k]? =_;rw[setRow_other _ _ _ _ (by omega)];exact Below.heap_alloc w.drew _ k hk⟩
 obtain⟨W1,hW1⟩:∃W1,W1=(w.drew.alloc (.cells C 293)).setRow w.heap.size C1.toArray:=⟨_,rfl⟩;rw[← hW1]at q1 q2 HW HGR;obtain⟨W2,hW2⟩:∃W2,W2=W1.drew.setRow w.heap.size C2.toArray:=⟨_,rfl⟩;rw[← hW2]at q2 HW HGR;have q1':∀ty dc,(Builtin.copy_ #[226,226] ty #[.slice (some ⟨w.heap.size,i*4,none⟩) (n+1-i) dc,.slice (some ⟨nb,0,none⟩) 1 1]).run Tryz.prog (w.alloc (.cells C 293)).drew= .ok (goInt 1) W1:=q1;clear q1 hW1 hW2;have hz2:¬((i:Int)=(n:Int)):=by omega
 have hz2b:((i:Int)==(n:Int))=false:=by simp;omega
 have hw1:IntKind.i64.wrap ((i:Int)+1)=(i:Int)+1:=IntWalk.i64_in _ (by omega);have hw2:IntKind.i64.wrap ((n:Int)+1)=(n:Int)+1:=IntWalk.i64_in _ (by omega);have hkk:((n:Int)+1-(i:Int))=((n+1-i:Nat):Int):=by omega
 have hrun2:=hrun;rw[← hkk]at hrun2;clear hkk hrun;have hinI:(i:Int)≤(n:Int):=by omega
 have htn:((i:Int)+1).toNat=i+1:=by omega
 have hb2:¬(cap'=i+1):=by omega
 have hb4:¬(n=i):=by omega
 have hb5:¬(cap'=i):=by omega
 have hrI:(n:Int)<(n:Int)+1:=by omega
 have hb3:(i:Int)≤(n:Int)+1:=by omega
 have hb6:(i:Int)+1≤(n:Int)+1:=by omega
 have h0i:(0:Int)≤(i:Int)+1:=by omega
 have h0i2:(0:Int)≤(i:Int):=by omega
 clear hown hxl hcs hcx hcx' hdl hil hcell hC1 hC2 l1 l2 t2 hnews hnew h1 h1x hg hgl hnbl hold hC hCl hCt hZ hZs hcap' hz0 hzs hzb hi0;go_enter Tryz.func236,Tryz.ntmps236;go_wp2_with (at_builtin;refine Lib.wpList_append_run _ rfl _ _ _ _ rfl _ _ rfl rfl _ _ (hrun2 _) ?_);let S:World→Prop:=fun w'=>True
 (refine wp_region_text 8 [0,1,2,3,4,5,6,7] S (by kernel_rfl) (by kernel_rfl) (by intro _ _ d _ _ h;cases d<;>exact h) ?hS ?_;rotate_left;simp only[xA,xB,xC,xD,xE,xF]);case hS=>exact True.intro
 (repeat ((refine' wpSeq_take rfl _ (by rfl) ?_ ?_;rotate_left;focus(intro w' hS;(try dsimp only at hS);skip;go_simp;(first|done|with_reducible rfl));(try go_frame));(try go_frame)));refine wpSeq_nil ?_;clear S;go_wp2_with fail;go_ret;exact⟨_,rfl,HW.out,HGR.out⟩
theorem c_Insert (w:World)(base:Nat)(v:Value)(n i:Nat)(xs:List Value)(u0 u1 u2 u3:Value)(nb:Nat)(hown:w.ownsRow base 293 4 v n xs)(hi:i≤n)(hn:n≤100000)
 (hnew:Blk w nb #[u0,u1,u2,u3] 293) (h1:∀u∈[u0,u1,u2,u3],u.oneCell'=true) (h1x:∀u∈xs,u.oneCell'=true) (hne:v.ownBlock≠some nb) (hbase:base≤w.heap.size):
 Calls Tryz.prog 236 #[v,.int .i64 i,.slice (some ⟨nb,0,none⟩) 1 1] w (RetIns w base v (n+1) (xs.take (i*4)++[u0,u1,u2,u3]++xs.drop (i*4))):=by
 by_cases hin:i=n
 ·subst hin
  have hl:=hown.1;rw[List.take_of_length_le (by omega),List.drop_eq_nil_of_le (by omega),List.append_nil];exact c_Insert_end w base v i xs u0 u1 u2 u3 nb hown hn hnew h1 hbase
 ·have hown':=hown
  rcases hown.2 with ⟨h,h0⟩|⟨g,cap,cur,rfl,h2,h3,h4,h5,h6,h7⟩
  ·omega
  ·by_cases hr:n+1≤cap
   ·exact c_Insert_room w base g cap n i xs u0 u1 u2 u3 nb hown' hn (by omega) hr hnew h1 h1x (fun e=>hne (by rw[e];rfl))
   ·obtain rfl:n=cap:=by omega
    exact c_Insert_grow w base g n i xs u0 u1 u2 u3 nb hown' hn (by omega) hnew h1 h1x hbase
theorem n_cmp (a b m p c d k q:Int)(w:World):Calls Tryz.prog 234 #[.agg #[.int .i64 a,.int .i64 b,.int .i64 m,.int .i64 p],.agg #[.int .i64 c,.int .i64 d,.int .i64 k,.int .i64 q]] w
 fun e w'=>e= .returned (.int .i64 (cmpP a b c d))∧Below w.heap.size w w':=by
 go_enter Tryz.func234,Tryz.ntmps234;go_wp2_with fail;refine(n_compare _ _ _ _ _).mono ?_;rintro e w1 ⟨rfl,hB⟩;have HB:=hid hB;clear hB;dsimp only;go_wp2_with fail;go_ret;exact⟨rfl,Below.trans (((Below.refl _ _).alloc (Nat.le_refl _) _).alloc (by simp) _) (HB.out.mono (by simp;omega))⟩
def lnCells (x:E):List Value:=[.int .i64 x.a,.int .i64 x.b,.int .i64 x.m,.int .i64 0]
def linesC (es:List E):List Value:=es.flatMap lnCells
theorem linesC_len (es:List E):(linesC es).length=es.length*4:=by
 induction es with
 |nil=>rfl
 |cons x es ih=>simp only[linesC,List.flatMap_cons,List.length_append,List.length_cons]at *;rw[ih];simp[lnCells];omega
theorem linesC_get (es:List E):∀k,k<es.length→∀j,j<4→(linesC es)[k*4+j]? =(lnCells (es[k]?.getD default))[j]? :=by
 induction es with
 |nil=>intro k hk;simp at hk
 |cons x es ih=>
  intro k hk j hj
  have e:linesC (x::es)=lnCells x++linesC es:=by simp[linesC]
  rw[e]
  cases k with
  |zero=>rw[List.getElem?_append_left (by simp[lnCells];omega)];simp
  |succ k=>
   rw[List.getElem?_append_right (by simp[lnCells];omega)]
   have:=ih k (by simpa using hk) j hj
   have e2:(k+1)*4+j-(lnCells x).length=k*4+j:=by simp[lnCells];omega
   rw[e2,this]
   simp
theorem owns_lines {w:World}{base:Nat}{e:TypeId}{v:Value}{es:List E}(h:w.ownsRow base e 4 v es.length (linesC es))(h0:0<es.length):
 ∃g cap,v= .slice (some ⟨g,0,none⟩) es.length cap∧base≤g∧g<w.heap.size∧es.length≤cap∧cap≤9223372036854775807∧(∀ k,w.frozen? ⟨g,k,none⟩=false)∧∀k,k<es.length→w.cell? ⟨g,k*4,none⟩=some (.int .i64 (es[k]?.getD default).a)∧
  w.cell? ⟨g,k*4+1,none⟩=some (.int .i64 (es[k]?.getD default).b)∧w.cell? ⟨g,k*4+2,none⟩=some (.int .i64 (es[k]?.getD default).m)∧w.cell? ⟨g,k*4+3,none⟩=some (.int .i64 0):=by
 have h':=h;rcases h.2 with ⟨_,h2⟩|⟨g,cap,cur,rfl,h2,h3,h4,h5,h6,h7⟩
 ·omega
 ·have hl:=linesC_len es
  have hc:∀k,k<es.length*4→w.cell? ⟨g,k,none⟩=(linesC es)[k]? :=fun k hk=>by
   rw[← h7,List.getElem?_take,if_pos hk];simp[World.cell?,h3]
  refine⟨g,cap,rfl,h2,(Array.getElem?_eq_some_iff.1 h3).1,h4,by unfold maxLen at h5;omega,fun k=>by simp[World.frozen?,h3],fun k hk=>⟨?_,?_,?_,?_⟩⟩
  ·rw[hc _ (by omega)];exact linesC_get es k hk 0 (by omega)
  ·rw[hc _ (by omega)];exact linesC_get es k hk 1 (by omega)
  ·rw[hc _ (by omega)];exact linesC_get es k hk 2 (by omega)
  ·rw[hc _ (by omega)];exact linesC_get es k hk 3 (by omega)
def ltE (x:E)(a b:Int):Bool:=decide (x.a<a)||(decide (x.a=a)&&decide (x.b<b))
def SortedE (es:List E):Prop:=∀j k,j<k→k<es.length→ltE (es[j]?.getD default) (es[k]?.getD default).a (es[k]?.getD default).b=true
def posE (es:List E)(a b:Int):Nat:=(es.takeWhile fun x=>ltE x a b).length
theorem posE_le (es:List E)(a b:Int):posE es a b≤es.length:=by
 unfold posE;induction es with
 |nil=>simp
 |cons x es ih=>by_cases h:ltE x a b=true<;>simp[h];exact ih
theorem posE_lt (es:List E)(a b:Int):∀k,k<posE es a b→ltE (es[k]?.getD default) a b=true:=by
 unfold posE;induction es with
 |nil=>intro k h;simp at h
 |cons x es ih=>
  intro k hk
  by_cases h:ltE x a b=true
  ·cases k with
   |zero=>simpa using h
   |succ k=>simp only[List.takeWhile_cons,h,if_true,List.length_cons]at hk;simpa using ih k (by omega)
  ·simp[h]at hk
theorem posE_ge (es:List E)(a b:Int)(hp:posE es a b<es.length):ltE (es[posE es a b]?.getD default) a b=false:=by
 unfold posE at*
 induction es with
 |nil=>simp at hp
 |cons x es ih=>
  by_cases h:ltE x a b=true
  ·simp only[List.takeWhile_cons,h,if_true,List.length_cons]at hp⊢
   simpa using ih (by omega)
  ·simp only[List.takeWhile_cons,h]
   simpa using h
theorem ltE_trans {x y:E}{a b:Int}(h1:ltE x y.a y.b=true)(h2:ltE y a b=true):ltE x a b=true:=by
 unfold ltE at*
 simp at*
 omega
theorem posE_of {es:List E}{a b:Int}(hs:SortedE es){i:Nat}(h1:∀k,k<i→ltE (es[k]?.getD default) a b=true)(h2:i<es.length→ltE (es[i]?.getD default) a b=false)(hi:i≤es.length):posE es a b=i:=by
 rcases Nat.lt_trichotomy (posE es a b) i with h|h|h
 ·have:=posE_ge es a b (by omega)
  rw[h1 _ h]at this;cases this
 ·exact h
 ·have:=posE_lt es a b i h
  rw[h2 (by have:=posE_le es a b;omega)]at this;cases this
theorem sorted_ge {es:List E}{a b:Int}(hs:SortedE es){h:Nat}(hh:h<es.length)(h1:ltE (es[h]?.getD default) a b=false)(k:Nat)(hk:h≤k)(hk2:k<es.length):ltE (es[k]?.getD default) a b=false:=by
 by_cases e:h=k
 ·rw[← e];exact h1
 ·cases h3:ltE (es[k]?.getD default) a b with
  |false=>rfl
  |true=>
   rw[ltE_trans (hs h k (by omega) hk2) h3]at h1;cases h1
theorem sorted_lt {es:List E}{a b:Int}(hs:SortedE es){h:Nat}(hh:h<es.length)(h1:ltE (es[h]?.getD default) a b=true)(k:Nat)(hk:k≤h):ltE (es[k]?.getD default) a b=true:=by
 by_cases e:k=h
 ·rw[e];exact h1
 ·exact ltE_trans (hs k h (by omega) hh) h1
theorem cmp_ltE (x:E)(a b:Int):decide (cmpP x.a x.b a b<0)=ltE x a b:=by
 have:=cmpP_ge x.a x.b a b;unfold ltE;by_cases h:cmpP x.a x.b a b<0
 ·rw[decide_eq_true h];have:=this.1 h;simp;omega
 ·rw[decide_eq_false h];have:¬(x.a<a∨x.a=a∧x.b<b):=fun h'=>h (this.2 h');simp;omega
theorem cmp_eqE (a b c d:Int):(cmpP a b c d=0)↔(a=c∧b=d):=by
 unfold cmpP cmpI;grind
def foundE (es:List E)(a b:Int):Bool:=decide (posE es a b<es.length)&&decide ((es[posE es a b]?.getD default).a=a∧(es[posE es a b]?.getD default).b=b)
def RetBsf (w:World)(es:List E)(a b:Int)(e:Ending)(w':World):Prop:=e= .returned (.tuple #[.int .i64 (posE es a b),.bool (foundE es a b)])∧Below w.heap.size w w'
theorem c_Bsf (w:World)(base:Nat)(v:Value)(es:List E)(a b m p:Int)(hown:w.ownsRow base 293 4 v es.length (linesC es))(hs:SortedE es)(hl:es.length≤100000):
 Calls Tryz.prog 233 #[v,.agg #[.int .i64 a,.int .i64 b,.int .i64 m,.int .i64 p],.func (.func 234) #[] #[]] w (RetBsf w es a b):=by
 have HO:=hid hown;have HS:=hid hs;have hfn:∀args w,(callFunc 234 args).run Tryz.prog w= .ok (.enter 234 args) w:=fun _ _=>by kernel_rfl
 obtain⟨va,cap,rfl⟩:∃va cap,v= .slice va es.length cap:=by
  rcases hown.2 with ⟨h,h0⟩|⟨g,cap,_,h,_⟩
  ·exact⟨none,0,by rw[h,h0]⟩
  ·exact⟨_,cap,h⟩
 obtain⟨W0,hW0⟩:∃W:World,W=w.alloc (.cells #[.int .i64 a,.int .i64 b,.int .i64 m,.int .i64 p] 293):=⟨_,rfl⟩;have HBX:Hid (Blk W0 w.heap.size #[.int .i64 a,.int .i64 b,.int .i64 m,.int .i64 p] 293):=by rw[hW0];exact Blk.new _ _ _
 have HB0:Hid (Below w.heap.size w W0):=by rw[hW0];exact(Below.refl _ _).alloc (Nat.le_refl _) _
 clear hown hs;go_enter Tryz.func233,Tryz.ntmps233;go_wp2_with fail;rw[← hW0];clear hW0;go_loopw [9,10] (fun iv jv wr=>∃i j:Nat,i≤j∧j≤es.length∧iv= .int .i64 i∧jv= .int .i64 j∧Hid (∀ k,k<i→ltE (es[k]?.getD default) a b=true)∧Hid (∀ k,j≤k→k<es.length→ltE (es[k]?.getD default) a b=false)∧Hid (Below W0.heap.size W0 wr)) (fun iv jv _=>(intOf jv).toNat-(intOf iv).toNat);case atStart=>exact⟨0,es.length,Nat.zero_le _,Nat.le_refl _,rfl,rfl,fun k hk=>absurd hk (by omega),fun k hk hk2=>absurd hk (by omega),Below.refl _ _⟩
 case round=>
  obtain⟨i,j,hij,hj,rfl,rfl,HLO,HHI,HBr⟩:=hrel;obtain⟨W1,rfl⟩:∃W:World,W=wr:=⟨_,rfl⟩;by_cases hlt:i<j
  ·obtain⟨h,hh⟩:∃h:Nat,h=(i+j)/2:=⟨_,rfl⟩
   have hltI:(i:Int)<(j:Int):=by omega
   have hh2:((i:Int)+(j:Int))/2=(h:Int):=by omega
   have hhl:h<es.length:=by omega
   have hih:i≤h∧h<j:=by omega
   obtain⟨g,cap',e,hbg,hgl,_,_,_,hcs⟩:=owns_lines (owns_below HO.out (HB0.out.trans (HBr.out.mono HB0.out.size))) (by omega);injection e with e1 _ e3
   subst e1 e3;obtain⟨x0,x1,x2,x3⟩:=hcs h hhl;have hb:=HBX.out.below HBr.out;have y0:=hb.cell 0;have y1:=hb.cell 1;have y2:=hb.cell 2;have y3:=hb.cell 3;simp only[xG,xH,xI]at y0 y1 y2 y3;have hl0:(0:Int)≤(h:Int):=by omega
   have hl1:(h:Int)<(es.length:Int):=by omega
   have wh:IntKind.i64.wrap ((h:Int)+1)=(h:Int)+1:=IntWalk.i64_in _ (by omega);have HCL:=hid (cmp_ltE (es[h]?.getD default) a b);have HSL:=hid (fun h1 k hk=>sorted_lt (es:=es) (a:=a) (b:=b) HS.out hhl h1 k hk);have HSG:=hid (fun h1 k hk hk2=>sorted_ge (es:=es) (a:=a) (b:=b) HS.out hhl h1 k hk hk2)
   have HX0:=hid (show ∀W:World,Below W1.heap.size W1 W→W.cell? ⟨g,h*4,none⟩=some (.int .i64 (es[h]?.getD default).a)∧W.cell? ⟨g,h*4+1,none⟩=some (.int .i64 (es[h]?.getD default).b)∧W.cell? ⟨g,h*4+2,none⟩=some (.int .i64 (es[h]?.getD default).m)∧W.cell? ⟨g,h*4+3,none⟩=some (.int .i64 0)∧
    W.cell? ⟨w.heap.size,0,none⟩=some (.int .i64 a)∧W.cell? ⟨w.heap.size,1,none⟩=some (.int .i64 b)∧W.cell? ⟨w.heap.size,2,none⟩=some (.int .i64 m)∧W.cell? ⟨w.heap.size,3,none⟩=some (.int .i64 p)from fun W hB=>⟨(hB.cell hgl).trans x0,(hB.cell hgl).trans x1,(hB.cell hgl).trans x2,(hB.cell hgl).trans x3,(hB.cell hb.lt).trans y0,(hB.cell hb.lt).trans y1,(hB.cell hb.lt).trans y2,(hB.cell hb.lt).trans y3⟩)
   clear hcs x0 x1 x2 x3 y0 y1 y2 y3 hb hlt hbg hh;generalize es[h]?.getD default=x at*
   let S:World→Prop:=fun W=>W.cell? ⟨g,h*4,none⟩=some (.int .i64 x.a)∧W.cell? ⟨g,h*4+1,none⟩=some (.int .i64 x.b)∧W.cell? ⟨g,h*4+2,none⟩=some (.int .i64 x.m)∧W.cell? ⟨g,h*4+3,none⟩=some (.int .i64 0)∧
    W.cell? ⟨w.heap.size,0,none⟩=some (.int .i64 a)∧W.cell? ⟨w.heap.size,1,none⟩=some (.int .i64 b)∧W.cell? ⟨w.heap.size,2,none⟩=some (.int .i64 m)∧W.cell? ⟨w.heap.size,3,none⟩=some (.int .i64 p)
   go_wp2_with fail;(refine wp_region_text 6 [0,1,2,3,4,5] S (by kernel_rfl) (by kernel_rfl) (by intro _ _ d _ _ h;cases d<;>exact h) ?hS ?_;rotate_left;simp only[xA,xB,xC,xD,xE,xF]);case hS=>exact HX0.out _ (Below.drew (Below.refl _ _))
   (repeat ((refine' wpSeq_take rfl _ (by rfl) ?_ ?_;rotate_left;focus(intro w' hS;(try dsimp only at hS);obtain⟨s1,s2,s3,s4,s5,s6,s7,s8⟩:=hS;go_simp;(first|done|with_reducible rfl));(try go_frame));(try go_frame)));refine wpSeq_nil ?_;clear S;go_wp2_with fail;refine(n_cmp _ _ _ _ _ _ _ _ _).mono ?_;rintro e w2 ⟨rfl,hB2⟩;have HB2:=hid (HBr.out.drew.trans (hB2.mono HBr.out.size));have hcl:=HCL.out;clear hB2;by_cases hc:cmpP x.a x.b a b<0
   ·rw[decide_eq_true hc]at hcl
    have HLT:=hid (HSL.out hcl.symm);have HC:=hid hc;generalize cmpP x.a x.b a b=z at*
    clear hcl HSL HSG HCL HX0;dsimp only;go_wp2_with fail;go_roundw;case rel=>exact⟨h+1,j,by omega,hj,by go_num,rfl,fun k hk=>HLT.out k (by omega),HHI,HB2⟩
    case measure=>simp[intOf];omega
   ·rw[decide_eq_false hc]at hcl
    have HLT:=hid (HSG.out hcl.symm);have hc':0≤cmpP x.a x.b a b:=by omega
    clear hc;generalize cmpP x.a x.b a b=z at*
    clear hcl HSL HSG HCL HX0;dsimp only;go_wp2_with fail;go_roundw;case rel=>exact⟨i,h,by omega,by omega,rfl,rfl,HLO,fun k hk hk2=>HLT.out k hk hk2,HB2⟩
    case measure=>simp[intOf];omega
  ·obtain rfl:i=j:=by omega
   clear hlt;have hp:posE es a b=i:=posE_of HS.out HLO.out (fun h=>HHI.out i (Nat.le_refl _) h) hj;have HP:=hid hp;clear hp HLO HHI hij;by_cases hil:i<es.length
   ·have hilI:(i:Int)<(es.length:Int):=by omega
    have hi0:(0:Int)≤(i:Int):=by omega
    obtain⟨g,cap',e,hbg,hgl,_,_,_,hcs⟩:=owns_lines (owns_below HO.out (HB0.out.trans (HBr.out.mono HB0.out.size))) (by omega);injection e with e1 _ e3
    subst e1 e3;obtain⟨x0,x1,x2,x3⟩:=hcs i hil;have hb:=HBX.out.below HBr.out;have y0:=hb.cell 0;have y1:=hb.cell 1;have y2:=hb.cell 2;have y3:=hb.cell 3;simp only[xG,xH,xI]at y0 y1 y2 y3
    have HX0:=hid (show ∀W:World,Below W1.heap.size W1 W→W.cell? ⟨g,i*4,none⟩=some (.int .i64 (es[i]?.getD default).a)∧W.cell? ⟨g,i*4+1,none⟩=some (.int .i64 (es[i]?.getD default).b)∧W.cell? ⟨g,i*4+2,none⟩=some (.int .i64 (es[i]?.getD default).m)∧W.cell? ⟨g,i*4+3,none⟩=some (.int .i64 0)∧
     W.cell? ⟨w.heap.size,0,none⟩=some (.int .i64 a)∧W.cell? ⟨w.heap.size,1,none⟩=some (.int .i64 b)∧W.cell? ⟨w.heap.size,2,none⟩=some (.int .i64 m)∧W.cell? ⟨w.heap.size,3,none⟩=some (.int .i64 p)from fun W hB=>⟨(hB.cell hgl).trans x0,(hB.cell hgl).trans x1,(hB.cell hgl).trans x2,(hB.cell hgl).trans x3,(hB.cell hb.lt).trans y0,(hB.cell hb.lt).trans y1,(hB.cell hb.lt).trans y2,(hB.cell hb.lt).trans y3⟩)
    have HF:Hid (foundE es a b=decide (cmpP (es[i]?.getD default).a (es[i]?.getD default).b a b=0)):=by
     show _=_;unfold foundE;rw[HP.out,decide_eq_true hil,Bool.true_and];exact decide_eq_decide.2 (cmp_eqE _ _ _ _).symm
    clear hcs x0 x1 x2 x3 y0 y1 y2 y3 hb hbg;generalize es[i]?.getD default=x at*
    let S:World→Prop:=fun W=>W.cell? ⟨g,i*4,none⟩=some (.int .i64 x.a)∧W.cell? ⟨g,i*4+1,none⟩=some (.int .i64 x.b)∧W.cell? ⟨g,i*4+2,none⟩=some (.int .i64 x.m)∧W.cell? ⟨g,i*4+3,none⟩=some (.int .i64 0)∧
     W.cell? ⟨w.heap.size,0,none⟩=some (.int .i64 a)∧W.cell? ⟨w.heap.size,1,none⟩=some (.int .i64 b)∧W.cell? ⟨w.heap.size,2,none⟩=some (.int .i64 m)∧W.cell? ⟨w.heap.size,3,none⟩=some (.int .i64 p)
    go_wp2_with fail;(refine wp_region_text 15 [0,1,2,3,4,5,6,7,8,9,10,11,12,13,14] S (by kernel_rfl) (by kernel_rfl) (by intro _ _ d _ _ h;cases d<;>exact h) ?hS ?_;rotate_left;simp only[xA,xB,xC,xD,xE,xF]);case hS=>exact HX0.out _ (Below.drew (Below.refl _ _))
    (repeat ((refine' wpSeq_take rfl _ (by rfl) ?_ ?_;rotate_left;focus(intro w' hS;(try dsimp only at hS);obtain⟨s1,s2,s3,s4,s5,s6,s7,s8⟩:=hS;go_simp;(first|done|with_reducible rfl));(try go_frame));(try go_frame)));refine wpSeq_call rfl (by rfl) (fun K hK=> ?_);go_simp;refine(n_cmp _ _ _ _ _ _ _ _ _).mono ?_;rintro e w2 ⟨rfl,hB2⟩;have HB2:=hid (HBr.out.drew.trans (hB2.mono HBr.out.size));refine hK _ _ (HX0.out _ ((Below.drew (Below.refl _ _)).trans hB2)) ?_;clear hK K hB2 HX0;have hfb:(cmpP x.a x.b a b==0)=foundE es a b:=by rw[HF.out];rfl
    clear HF;generalize cmpP x.a x.b a b=z at*
    (repeat ((refine' wpSeq_take rfl _ (by rfl) ?_ ?_;rotate_left;focus(intro w' hS;(try dsimp only at hS);obtain⟨s1,s2,s3,s4,s5,s6,s7,s8⟩:=hS;go_simp;(first|done|with_reducible rfl));(try go_frame));(try go_frame)));refine wpSeq_nil ?_;clear S;go_wp2_with fail;go_ret2;exact⟨by rw[HP.out,←hfb];rfl,up HB0.out HB2.out⟩
   ·obtain rfl:i=es.length:=by omega
    have hnl:¬(es.length:Int)<(es.length:Int):=by omega
    have HF:Hid (foundE es a b=false):=by
     show _=_;unfold foundE;rw[HP.out];simp
    go_wp2_with fail;let S:World→Prop:=fun W=>True
    (refine wp_region_text 15 [0,1,2,3,4,5,6,7,8,9,10,11,12,13,14] S (by kernel_rfl) (by kernel_rfl) (by intro _ _ d _ _ h;cases d<;>exact h) ?hS ?_;rotate_left;simp only[xA,xB,xC,xD,xE,xF]);case hS=>exact True.intro
    (repeat ((refine' wpSeq_take rfl _ (by rfl) ?_ ?_;rotate_left;focus(intro w' hS;(try dsimp only at hS);skip;go_simp;(first|done|with_reducible rfl));(try go_frame));(try go_frame)));(repeat (refine wpSeq_skip (by rfl) ?_;(try go_frame)));(repeat ((refine' wpSeq_take rfl _ (by rfl) ?_ ?_;rotate_left;focus(intro w' hS;(try dsimp only at hS);skip;go_simp;(first|done|with_reducible rfl));(try go_frame));(try go_frame)));refine wpSeq_nil ?_;clear S;go_wp2_with fail;go_ret2;exact⟨by rw[HP.out,HF.out];rfl,up HB0.out HBr.out.drew⟩
theorem linesC_append (a b:List E):linesC (a++b)=linesC a++linesC b:=by simp[linesC]
theorem linesC_take (es:List E)(i:Nat)(hi:i≤es.length):linesC (es.take i)=(linesC es).take (i*4):=by
 have h:=linesC_append (es.take i) (es.drop i);have hl:(linesC (es.take i)).length=i*4:=by rw[linesC_len,List.length_take,Nat.min_eq_left hi]
 rw[List.take_append_drop]at h;rw[h];exact(List.take_left' hl).symm
theorem linesC_drop (es:List E)(i:Nat)(hi:i≤es.length):linesC (es.drop i)=(linesC es).drop (i*4):=by
 have h:=linesC_append (es.take i) (es.drop i);have hl:(linesC (es.take i)).length=i*4:=by rw[linesC_len,List.length_take,Nat.min_eq_left hi]
 rw[List.take_append_drop]at h;rw[h];exact(List.drop_left' hl).symm
def insE (es:List E)(a b:Int):List E:=if foundE es a b then es else es.take (posE es a b)++⟨a,b,0⟩::es.drop (posE es a b)
theorem insE_at (es:List E)(a b:Int):posE es a b<(insE es a b).length∧((insE es a b)[posE es a b]?.getD default).a=a∧((insE es a b)[posE es a b]?.getD default).b=b:=by
 unfold insE;have hp:=posE_le es a b;cases hf:foundE es a b with
 |true=>
  rw[if_pos rfl]
  unfold foundE at hf
  simp only[Bool.and_eq_true,decide_eq_true_eq]at hf
  exact hf
 |false=>
  rw[if_neg (by decide)]
  refine⟨by simp;omega,?_⟩
  rw[List.getElem?_append_right (by rw[List.length_take];omega),List.length_take,Nat.min_eq_left hp,Nat.sub_self]
  exact⟨rfl,rfl⟩
theorem insE_len (es:List E)(a b:Int):es.length≤(insE es a b).length∧(insE es a b).length≤es.length+1:=by
 unfold insE;have hp:=posE_le es a b;split<;>simp<;>omega
def addE (es:List E)(a b m:Int):List E:=(insE es a b).set (posE es a b) ⟨a,b,((insE es a b)[posE es a b]?.getD default).m+m⟩
theorem addE_len (es:List E)(a b m:Int):(addE es a b m).length=(insE es a b).length:=by simp[addE]
theorem linesC_set (es:List E)(i:Nat)(x:E)(hi:i<es.length)(m:Int)(hx:x=⟨(es[i]?.getD default).a,(es[i]?.getD default).b,m⟩):linesC (es.set i x)=(linesC es).set (i*4+2) (.int .i64 m):=by
 have e:es=es.take i++es[i]::es.drop (i+1):=by rw[← List.drop_eq_getElem_cons hi,List.take_append_drop]
 have hl:(es.take i).length=i:=by rw[List.length_take];omega
 have hg:es[i]?.getD default=es[i]:=by rw[List.getElem?_eq_getElem hi];rfl
 rw[hg]at hx;have e1:es.set i x=es.take i++x::es.drop (i+1):=by
  conv=>lhs;rw[e]
  rw[List.set_append_right _ _ (by omega),hl,Nat.sub_self];rfl
 have e2:linesC es=linesC (es.take i)++(lnCells es[i]++linesC (es.drop (i+1))):=by
  conv=>lhs;rw[e]
  rw[linesC_append];rfl
 rw[e1,linesC_append,e2,List.set_append_right _ _ (by rw[linesC_len,hl];omega),linesC_len,hl,show i*4+2-i*4=2 by omega,hx];rfl
def tabL (sign:UInt8)(either:Bool)(n:Int):Nat→List E→Rs→List E×Rs
 |0,es,s=>(es,s)
 |f+1,es,s=>
  if s.more=false then(es,s)
  else
   let p:=s.line sign n
   if p.2.e≠0 then(es,p.2)
   else
    let a:=lo either p.1
    let b:=hi either p.1
    if 50<((insE es a b)[posE es a b]?.getD default).m+p.1.m then(addE es a b p.1.m,p.2.fail 5 p.1.pl)
    else tabL sign either n f (addE es a b p.1.m) p.2
theorem num_ok {lo hi:Int}{s:Rs}(h:(s.num lo hi).2.e=0):s.e=0∧s.now.kind=1∧(s.num lo hi).2=s.skip∧lo≤(s.num lo hi).1∧(s.num lo hi).1≤hi:=by
 unfold Rs.num at h⊢;by_cases h1:s.e≠0∨s.now.kind≠1
 ·rw[if_pos h1]at h
  unfold Rs.fail at h;split at h
  ·cases h
  ·exact absurd h ‹_›
 ·rw[if_neg h1]at h⊢
  by_cases h2:(natR s.now.text).2≠0∨(natR s.now.text).1<lo∨hi<(natR s.now.text).1
  ·rw[if_pos h2]at h
   unfold Rs.fail at h;split at h
   ·cases h
   ·exact absurd h ‹_›
  ·rw[if_neg h2]at h⊢
   refine⟨by omega,by omega,rfl,by dsimp only;omega,by dsimp only;omega⟩
theorem need_ok {t:List UInt8}{s:Rs}(h:(s.need t).e=0):s.is t=true∧s.need t=s.skip:=by
 unfold Rs.need at h⊢;cases hi:s.is t with
 |true=>exact⟨rfl,if_pos rfl⟩
 |false=>
  rw[hi,if_neg (by decide)]at h
  unfold Rs.fail at h
  split at h
  ·cases h
  ·exact absurd h ‹_›
theorem skip_len (s:Rs):s.skip.ts.length=s.ts.length-1:=by simp[Rs.skip]
theorem kind_len {s:Rs}(h:TsOk s.ts)(hk:s.now.kind≠3):TsOk s.skip.ts∧s.skip.ts.length+1=s.ts.length:=by
 have h2:=h.two hk;exact⟨h.drop hk,by rw[skip_len];omega⟩
theorem fail_ts (s:Rs)(k p:Int):(s.fail k p).ts=s.ts:=by unfold Rs.fail;split<;>rfl
theorem num_ts {s:Rs}(h:TsOk s.ts)(lo hi:Int):TsOk (s.num lo hi).2.ts∧(s.num lo hi).2.ts.length≤s.ts.length∧((s.num lo hi).2.e=0→(s.num lo hi).2.ts.length<s.ts.length):=by
 by_cases he:(s.num lo hi).2.e=0
 ·obtain⟨h1,h2,h3,_⟩:=num_ok he
  rw[h3];obtain⟨q1,q2⟩:=kind_len h (show s.now.kind≠3 by rw[h2];decide);exact⟨q1,by omega,fun _=>by omega⟩
 ·have:(s.num lo hi).2.ts=s.ts:=by
   unfold Rs.num at he⊢;split
   ·exact fail_ts _ _ _
   ·split
    ·exact fail_ts _ _ _
    ·rw[if_neg ‹_›,if_neg ‹_›]at he
     exact absurd (show s.e=0 by omega) he
  rw[this];exact⟨h,Nat.le_refl _,fun h'=>absurd h' he⟩
theorem need_ts {s:Rs}(h:TsOk s.ts)(t:List UInt8):TsOk (s.need t).ts∧(s.need t).ts.length≤s.ts.length:=by
 unfold Rs.need;cases hi:s.is t with
 |true=>
  rw[if_pos rfl]
  obtain⟨q1,q2⟩:=kind_len h (Rs.is_kind hi).1
  exact⟨q1,by omega⟩
 |false=>rw[if_neg (by decide),fail_ts];exact⟨h,Nat.le_refl _⟩
theorem mul_ts {s:Rs}(h:TsOk s.ts):TsOk s.mul.2.ts∧s.mul.2.ts.length≤s.ts.length∧(s.mul.2.e=0→s.e=0∧1≤s.mul.1∧s.mul.1≤50):=by
 unfold Rs.mul;cases hi:s.is [42]with
 |true=>
  rw[if_pos rfl]
  obtain⟨q1,q2⟩:=kind_len h (Rs.is_kind hi).1
  obtain⟨r1,r2,_⟩:=num_ts q1 1 50
  exact⟨r1,by omega,fun he=>by have h1:=num_ok he;exact⟨(Rs.is_kind hi).2.1,h1.2.2.2.1,h1.2.2.2.2⟩⟩
 |false=>rw[if_neg (by decide)];exact⟨h,Nat.le_refl _,fun he=>⟨he,show(1:Int)≤1 by decide,show(1:Int)≤50 by decide⟩⟩
theorem line_ts {s:Rs}(h:TsOk s.ts)(sign:UInt8)(n:Int):TsOk (s.line sign n).2.ts∧(s.line sign n).2.ts.length≤s.ts.length∧
 ((s.line sign n).2.e=0→(s.line sign n).2.ts.length<s.ts.length∧0≤(s.line sign n).1.a∧(s.line sign n).1.a≤n-1∧0≤(s.line sign n).1.b∧(s.line sign n).1.b≤n-1∧1≤(s.line sign n).1.m∧(s.line sign n).1.m≤50):=by
 unfold Rs.line;obtain⟨a1,a2,a3⟩:=num_ts h 0 (n-1);obtain⟨b1,b2⟩:=need_ts a1 [sign];obtain⟨c1,c2,c3⟩:=num_ts b1 0 (n-1);obtain⟨d1,d2,d3⟩:=mul_ts c1;refine⟨d1,by dsimp only;omega,fun he=> ?_⟩;dsimp only at he⊢;obtain⟨e1,e2,e3⟩:=d3 he;have f1:=num_ok e1;have f2:=(need_ok f1.1);have f3:=(Rs.is_kind f2.1).2.1;have f4:=num_ok f3;have g1:=a3 f3;exact⟨by omega,f4.2.2.2.1,f4.2.2.2.2,f1.2.2.2.1,f1.2.2.2.2,e2,e3⟩
theorem sorted_iff (es:List E):SortedE es↔es.Pairwise fun x y=>ltE x y.a y.b=true:=by
 rw[List.pairwise_iff_getElem];constructor
 ·intro h i j hi hj hij
  have:=h i j hij hj;rw[List.getElem?_eq_getElem hi,List.getElem?_eq_getElem hj]at this;exact this
 ·intro h j k hjk hk
  rw[List.getElem?_eq_getElem (by omega),List.getElem?_eq_getElem hk];exact h j k (by omega) hk hjk
theorem ltE_tri (x:E)(a b:Int)(h1:ltE x a b=false)(h2:¬(x.a=a∧x.b=b))(m:Int):ltE ⟨a,b,m⟩ x.a x.b=true:=by
 unfold ltE at*
 simp at*
 omega
theorem insE_sorted {es:List E}(hs:SortedE es)(a b:Int):SortedE (insE es a b):=by
 unfold insE;cases hf:foundE es a b with
 |true=>exact hs
 |false=>
  rw[if_neg (by decide)]
  have hp:=posE_le es a b
  have hpw:=(sorted_iff es).1 hs
  refine(sorted_iff _).2 (List.pairwise_append.2 ⟨hpw.sublist (List.take_sublist _ _),List.pairwise_cons.2 ⟨?_,hpw.sublist (List.drop_sublist _ _)⟩,?_⟩)
  ·intro z hz
   obtain⟨k,hk,rfl⟩:=List.getElem_of_mem hz;rw[List.getElem_drop];rw[List.length_drop]at hk;have hpl:posE es a b<es.length:=by omega
   have hge:=posE_ge es a b hpl;have hne:¬((es[posE es a b]?.getD default).a=a∧(es[posE es a b]?.getD default).b=b):=fun h=>by
    unfold foundE at hf;rw[decide_eq_true hpl,decide_eq_true h]at hf;cases hf
   have h1:=ltE_tri _ a b hge hne 0;by_cases hk0:k=0
   ·subst hk0
    rw[List.getElem?_eq_getElem hpl]at h1;exact h1
   ·have h2:=hs (posE es a b) (posE es a b+k) (by omega) (by omega)
    rw[List.getElem?_eq_getElem (show posE es a b+k<es.length by omega)]at h2;exact ltE_trans (x:=⟨a,b,0⟩) (y:=es[posE es a b]?.getD default) h1 h2
  ·intro y hy z hz
   obtain⟨k,hk,rfl⟩:=List.getElem_of_mem hy;rw[List.getElem_take];rw[List.length_take]at hk;have h1:=posE_lt es a b k (by omega);rw[List.getElem?_eq_getElem (show k<es.length by omega)]at h1;rcases List.mem_cons.1 hz with rfl|hz
   ·exact h1
   ·obtain⟨j,hj,rfl⟩:=List.getElem_of_mem hz
    rw[List.getElem_drop];rw[List.length_drop]at hj;have h2:=hs k (posE es a b+j) (by omega) (by omega);rw[List.getElem?_eq_getElem (show k<es.length by omega),List.getElem?_eq_getElem (show posE es a b+j<es.length by omega)]at h2;exact h2
theorem set_sorted {es:List E}(hs:SortedE es)(i:Nat)(x:E)(hx:x.a=(es[i]?.getD default).a∧x.b=(es[i]?.getD default).b):SortedE (es.set i x):=by
 intro j k hjk hk;rw[List.length_set]at hk;have key:∀q,q<es.length→((es.set i x)[q]?.getD default).a=(es[q]?.getD default).a∧((es.set i x)[q]?.getD default).b=(es[q]?.getD default).b:=fun q hq=>by
  by_cases e:i=q
  ·subst e;rw[List.getElem?_set_self hq];exact hx
  ·rw[List.getElem?_set_ne e];exact⟨rfl,rfl⟩
 have:=hs j k hjk hk;obtain⟨q1,q2⟩:=key j (by omega);obtain⟨q3,q4⟩:=key k hk;unfold ltE at*
 rw[q1,q2,q3,q4];exact this
theorem addE_sorted {es:List E}(hs:SortedE es)(a b m:Int):SortedE (addE es a b m):=
 set_sorted (insE_sorted hs a b) _ _ ⟨(insE_at es a b).2.1.symm,(insE_at es a b).2.2.symm⟩
def AllE (p:E→Prop)(es:List E):Prop:=∀x∈es,p x
theorem insE_all {p:E→Prop}{es:List E}(h:AllE p es)(a b:Int)(h0:p ⟨a,b,0⟩):AllE p (insE es a b):=by
 unfold insE;split
 ·exact h
 ·intro x hx
  rcases List.mem_append.1 hx with hx|hx
  ·exact h x (List.mem_of_mem_take hx)
  ·rcases List.mem_cons.1 hx with rfl|hx
   ·exact h0
   ·exact h x (List.mem_of_mem_drop hx)
theorem addE_all {p:E→Prop}{es:List E}(a b m:Int)(h:AllE p (insE es a b))(h1:p ⟨a,b,((insE es a b)[posE es a b]?.getD default).m+m⟩):AllE p (addE es a b m):=by
 intro x hx;rcases List.mem_or_eq_of_mem_set hx with hx|rfl
 ·exact h x hx
 ·exact h1
theorem insE_m {es:List E}(h:AllE (fun x=>0≤x.m∧x.m≤50) es)(a b:Int):0≤((insE es a b)[posE es a b]?.getD default).m∧((insE es a b)[posE es a b]?.getD default).m≤50:=by
 have h1:=insE_all h a b ⟨by show(0:Int)≤0;decide,by show(0:Int)≤50;decide⟩;have hl:=(insE_at es a b).1;rw[List.getElem?_eq_getElem hl];exact h1 _ (List.getElem_mem hl)
theorem insE_lines {es:List E}{a b:Int}(hf:foundE es a b=false):linesC (insE es a b)=(linesC es).take (posE es a b*4)++[.int .i64 a,.int .i64 b,.int .i64 0,.int .i64 0]++(linesC es).drop (posE es a b*4):=by
 unfold insE;have hp:=posE_le es a b;rw[hf,if_neg (by decide),linesC_append,linesC_take _ _ hp,←linesC_drop _ _ hp,List.append_assoc];rfl
theorem addE_lines (es:List E)(a b m:Int):linesC (addE es a b m)=(linesC (insE es a b)).set (posE es a b*4+2) (.int .i64 (((insE es a b)[posE es a b]?.getD default).m+m)):=by
 obtain⟨h1,h2,h3⟩:=insE_at es a b;unfold addE;rw[linesC_set _ _ _ h1 _ (by rw[h2,h3])]
theorem lines_one (es:List E):∀u∈linesC es,u.oneCell'=true:=by
 intro u hu;obtain⟨x,_,hx⟩:=List.mem_flatMap.1 hu;simp[lnCells]at hx;rcases hx with rfl|rfl|rfl|rfl<;>rfl
theorem insE_found {es:List E}{a b:Int}(hf:foundE es a b=true):insE es a b=es:=by
 unfold insE;rw[hf,if_pos rfl]
theorem insE_len_new {es:List E}{a b:Int}(hf:foundE es a b=false):(insE es a b).length=es.length+1:=by
 unfold insE;have hp:=posE_le es a b;rw[hf,if_neg (by decide)];simp;omega
theorem fail_e {s:Rs}{k p:Int}(hk:k≠0)(h:(s.fail k p).e=0):False:=by
 unfold Rs.fail at h;split at h
 ·exact hk h
 ·exact absurd h ‹_›
theorem not_more {s:Rs}(h:s.e≠0):s.more=false:=by
 unfold Rs.more;simp[h]
theorem tabL_fuel (sign:UInt8)(either:Bool)(n:Int):∀(f g:Nat) (es:List E) (s:Rs),TsOk s.ts→s.ts.length≤f→s.ts.length≤g→tabL sign either n f es s=tabL sign either n g es s
 |0,_,es,s,h,h1,_=>by have:=h.1;omega
 |_,0,es,s,h,_,h2=>by have:=h.1;omega
 |f+1,g+1,es,s,h,h1,h2=>by
  unfold tabL;cases hm:s.more with
  |false=>rw[if_pos (show false=false from rfl),if_pos (show false=false from rfl)]
  |true=>
   rw[if_neg (show ¬(true=false) by decide),if_neg (show ¬(true=false) by decide)]
   obtain⟨q1,q2,q3⟩:=line_ts h sign n
   by_cases he:(s.line sign n).2.e≠0
   ·rw[if_pos (show (s.line sign n).2.e≠0 from he),if_pos (show (s.line sign n).2.e≠0 from he)]
   ·rw[if_neg (show ¬(s.line sign n).2.e≠0 from he),if_neg (show ¬(s.line sign n).2.e≠0 from he)]
    have:=q3 (by omega);dsimp only;rw[tabL_fuel sign either n f g _ _ q1 (by omega) (by omega)]
theorem tabL_end (sign:UInt8)(either:Bool)(n:Int)(f:Nat)(es:List E)(s:Rs)(h:s.more=false):tabL sign either n f es s=(es,s):=by
 cases f with
 |zero=>rfl
 |succ f=>unfold tabL;rw[if_pos h]
theorem insE_new_m {es:List E}{a b:Int}(hf:foundE es a b=false):((insE es a b)[posE es a b]?.getD default).m=0:=by
 unfold insE;have hp:=posE_le es a b;rw[hf,if_neg (by decide),List.getElem?_append_right (by rw[List.length_take];omega),List.length_take,Nat.min_eq_left hp,Nat.sub_self];rfl
theorem bet_app {lo hi:Int}:∀(A B:List E),(∀ x∈A,¬(x.a=lo∧x.b=hi))→bet lo hi (A++B)=bet lo hi B
 |[],B,_=>rfl
 |x::A,B,h=>by
  show(if x.a=lo∧x.b=hi then x.m else bet lo hi (A++B))=_;rw[if_neg (h x (by simp)),bet_app A B (fun y hy=>h y (by simp[hy]))]
theorem bet_none {lo hi:Int}(A:List E)(h:∀x∈A,¬(x.a=lo∧x.b=hi)):bet lo hi A=0:=by
 have:=bet_app A [] h;rw[List.append_nil]at this;rw[this];rfl
theorem bet_mid {lo hi a b m:Int}(h:¬(a=lo∧b=hi)):∀(A B:List E),bet lo hi (A++⟨a,b,m⟩::B)=bet lo hi (A++B)
 |[],B=>by
  show bet lo hi (⟨a,b,m⟩::B)=bet lo hi B;conv=>lhs;unfold bet
  rw[if_neg h]
 |x::A,B=>by
  show bet lo hi (x::(A++_))=bet lo hi (x::(A++B));unfold bet;rw[bet_mid h A B]
theorem ltE_irr {x:E}{a b:Int}(h:ltE x a b=true):¬(x.a=a∧x.b=b):=by
 unfold ltE at h;simp at h;omega
theorem addE_split {es:List E}(hs:SortedE es)(a b m:Int):∃T D,(∀ x∈T,¬(x.a=a∧x.b=b))∧(∀ x∈D,¬(x.a=a∧x.b=b))∧
 ((insE es a b)[posE es a b]?.getD default).m=bet a b es∧addE es a b m=T++⟨a,b,bet a b es+m⟩::D∧(es=T++D∨es=T++⟨a,b,bet a b es⟩::D):=by
 have hp:=posE_le es a b;have hT:∀x∈es.take (posE es a b),¬(x.a=a∧x.b=b):=fun x hx=>by
  obtain⟨k,hk,rfl⟩:=List.getElem_of_mem hx;rw[List.length_take]at hk;rw[List.getElem_take];have:=posE_lt es a b k (by omega);rw[List.getElem?_eq_getElem (by omega)]at this;exact ltE_irr this
 have hpw:=(sorted_iff es).1 hs;have hlt:(es.take (posE es a b)).length=posE es a b:=by rw[List.length_take];omega
 cases hf:foundE es a b with
 |true=>
  have hf':=hf
  unfold foundE at hf'
  simp only[Bool.and_eq_true,decide_eq_true_eq]at hf'
  obtain⟨hl,ha,hb⟩:=hf'
  rw[List.getElem?_eq_getElem hl]at ha hb
  have e:es=es.take (posE es a b)++es[posE es a b]::es.drop (posE es a b+1):=by rw[← List.drop_eq_getElem_cons hl,List.take_append_drop]
  have hx:es[posE es a b]=⟨a,b,es[posE es a b].m⟩:=by
   have key:∀y:E,y.a=a→y.b=b→y=⟨a,b,y.m⟩:=fun y h1 h2=>by cases y;dsimp only at h1 h2;subst h1 h2;rfl
   exact key _ ha hb
  have hD:∀x∈es.drop (posE es a b+1),¬(x.a=a∧x.b=b):=fun x hx'=>by
   rw[e]at hpw;have h2:=(List.pairwise_append.1 hpw).2.1;have h3:=(List.pairwise_cons.1 h2).1 x hx';rw[hx]at h3;unfold ltE at h3;simp at h3;omega
  have hbt:bet a b es=es[posE es a b].m:=by
   conv=>lhs;rw[e]
   rw[bet_app _ _ hT,hx];unfold bet;rw[if_pos ⟨rfl,rfl⟩]
  refine⟨_,_,hT,hD,?_,?_,?_⟩
  ·rw[insE_found hf,List.getElem?_eq_getElem hl,hbt];rfl
  ·unfold addE
   rw[insE_found hf,List.getElem?_eq_getElem hl,hbt];show es.set (posE es a b) ⟨a,b,es[posE es a b].m+m⟩=_;generalize es[posE es a b].m+m=q;have e1:es.set (posE es a b) ⟨a,b,q⟩=(es.take (posE es a b)++es[posE es a b]::es.drop (posE es a b+1)).set (posE es a b) ⟨a,b,q⟩:=by rw[← e]
   rw[e1,List.set_append_right _ _ (by omega),hlt,Nat.sub_self];rfl
  ·refine .inr ?_
   rw[hbt,←hx];exact e
 |false=>
  have hD:∀x∈es.drop (posE es a b),¬(x.a=a∧x.b=b):=fun x hx=>by
   obtain⟨k,hk,rfl⟩:=List.getElem_of_mem hx;rw[List.length_drop]at hk;rw[List.getElem_drop];have hl:posE es a b<es.length:=by omega
   have h1:=posE_ge es a b hl;have h2:¬((es[posE es a b]?.getD default).a=a∧(es[posE es a b]?.getD default).b=b):=by
    intro hh;unfold foundE at hf;rw[decide_eq_true hl,Bool.true_and,decide_eq_true hh]at hf;cases hf
   have h3:=ltE_tri _ a b h1 h2 0;by_cases hk0:k=0
   ·subst hk0
    rw[List.getElem?_eq_getElem hl]at h2;exact h2
   ·have h4:=hs (posE es a b) (posE es a b+k) (by omega) (by omega)
    have h5:=ltE_trans (x:=⟨a,b,0⟩) h3 h4;rw[List.getElem?_eq_getElem (by omega)]at h5;intro hh;exact ltE_irr h5 ⟨hh.1.symm,hh.2.symm⟩
  have hbt:bet a b es=0:=by
   have e:es=es.take (posE es a b)++es.drop (posE es a b):=(List.take_append_drop _ _).symm;rw[e,bet_app _ _ hT,bet_none _ hD]
  refine⟨_,_,hT,hD,?_,?_,.inl (List.take_append_drop _ _).symm⟩
  ·rw[insE_new_m hf,hbt]
  ·unfold addE
   rw[insE_new_m hf,hbt];generalize (0:Int)+m=q;unfold insE;rw[hf,if_neg (by decide),List.set_append_right _ _ (by omega),hlt,Nat.sub_self];rfl
theorem addE_bet {es:List E}(hs:SortedE es)(a b m x y:Int):bet x y (addE es a b m)=addM (fun x y=>bet x y es) a b m x y:=by
 obtain⟨T,D,hT,hD,_,h,h2⟩:=addE_split hs a b m;rw[h];unfold addM;by_cases e:x=a∧y=b
 ·obtain⟨rfl,rfl⟩:=e
  rw[if_pos ⟨rfl,rfl⟩,bet_app _ _ hT];conv=>lhs;unfold bet
  rw[if_pos ⟨rfl,rfl⟩]
 ·rw[if_neg e,bet_mid (fun h=>e ⟨h.1.symm,h.2.symm⟩)]
  dsimp only;rcases h2 with h2|h2
  ·rw[← h2]
  ·conv=>rhs;rw[h2,bet_mid (fun h=>e ⟨h.1.symm,h.2.symm⟩)]
structure RelM (n:Int)(es:List E)(M:Int→Int→Int):Prop where
 s:SortedE es
 r:∀x∈es,0≤x.a∧x.a<n∧0≤x.b∧x.b<n∧1≤x.m∧x.m≤50
 m:∀x y,bet x y es=M x y
theorem RelM.nil (n:Int):RelM n [] (fun _ _=>0):=⟨fun j k _ hk=>absurd hk (by simp),fun x hx=>(by cases hx),fun _ _=>rfl⟩
theorem RelM.le {n:Int}{es:List E}{M:Int→Int→Int}(h:RelM n es M)(x y:Int):0≤M x y∧M x y≤50:=by
 rw[← h.m x y];exact bet_mem x y (fun m=>0≤m∧m≤50) (by omega) es (fun z hz=>by have:=h.r z hz;omega)
theorem RelM.add {n:Int}{es:List E}{M:Int→Int→Int}(h:RelM n es M){a b m:Int}(ha:0≤a∧a<n)(hb:0≤b∧b<n)(hm:1≤m)(h50:M a b+m≤50):RelM n (addE es a b m) (addM M a b m):=by
 refine⟨addE_sorted h.s a b m,?_,fun x y=> ?_⟩
 ·obtain⟨T,D,hT,hD,_,h1,h2⟩:=addE_split h.s a b m
  intro x hx;rw[h1]at hx;have key:x=⟨a,b,bet a b es+m⟩∨x∈es:=by
   rcases List.mem_append.1 hx with hx|hx
   ·rcases h2 with h2|h2<;>exact .inr (by rw[h2];simp[hx])
   ·rcases List.mem_cons.1 hx with hx|hx
    ·exact .inl hx
    ·rcases h2 with h2|h2<;>exact .inr (by rw[h2];simp[hx])
  rcases key with rfl|hx
  ·have:=h.le a b
   rw[h.m a b];exact⟨ha.1,ha.2,hb.1,hb.2,by dsimp only;omega,h50⟩
  ·exact h.r x hx
 ·rw[addE_bet h.s]
  unfold addM;dsimp only;rw[h.m a b,h.m x y]
end Go.Proofs.YtclgllmipcbagaaGreatDoor
