/-
  Parts of the proof: XSi XSk XSl
-/
import Derived.Shelf.Spec.SlicesInsert
import Derived.Lib.AppendZerosOnto
import Derived.Laws.CopyRow
import Derived.Test.YtclgllmipcbagaaGreatDoorBk15
import Derived.Test.YtclgllmipcbagaaGreatDoorBk10
import Derived.Maps.AppendAt
namespace Go.Proofs.YtclgllmipcbagaaGreatDoor
set_option linter.unusedVariables false
set_option linter.unusedSimpArgs false
set_option maxRecDepth 100000
set_option maxHeartbeats 16000000
open Go.RowKit
theorem und_obs:Tryz.prog.underlying 22=some (.slice 67):=by kernel_rfl
theorem info_ob:(Tryz.prog.info? 67).map (fun i=>(i.zero,i.size,i.bytes))=some (some (.agg #[.string ⟨#[]⟩,.string ⟨#[]⟩,.int .i64 0,.slice none 0 0,.slice none 0 0]),5,88):=by kernel_rfl
theorem size_ob:(Tryz.prog.info? 67).map (·.size)=some 5:=by kernel_rfl
def RetIn5 (w:World)(base:Nat)(v:Value)(n:Nat)(ys:List Value)(e:Ending)(w':World):Prop:=
 ∃v',e= .returned v'∧w'.ownsRow base 67 5 v' n ys∧w.grownBy w' v.ownBlock
theorem c_Ins5_end (w:World)(base:Nat)(v:Value)(n:Nat)(xs:List Value)(u0 u1 u2 u3 u4:Value)(nb:Nat)(hown:w.ownsRow base 67 5 v n xs)(hn:n≤100000)
 (hnew:Blk w nb #[u0,u1,u2,u3,u4] 67) (h1:∀u∈[u0,u1,u2,u3,u4],u.oneCell'=true) (hbase:base≤w.heap.size):
 Calls Tryz.prog 193 #[v,.int .i64 n,.slice (some ⟨nb,0,none⟩) 1 1] w (RetIn5 w base v (n+1) (xs++[u0,u1,u2,u3,u4])):=by
 obtain⟨i0,hi,hz0,hz1,hz2⟩:=info_parts info_ob;have hnews:∀j u,[u0,u1,u2,u3,u4][j]? =some u→w.cell? ((⟨nb,0,none⟩:Addr).add j)=some u:=fun j u hj=>by
  rw[Addr.add_lit,Nat.zero_add,hnew.cell j];simpa using hj
 obtain⟨a,cap,rfl⟩:∃a cap,v= .slice a n cap:=by
  rcases hown.2 with ⟨h,rfl⟩|⟨g,cap,_,h,_⟩
  ·exact⟨none,0,h⟩
  ·exact⟨_,cap,h⟩
 have HN:=hid hnews;have HO:=hid hown;have H1:=hid h1;have hnc:n≤cap:=by
  rcases hown.2 with ⟨h,rfl⟩|⟨g,cap',_,h,_,_,h2,_⟩
  ·exact Nat.zero_le _
  ·injection h with _ _ h;omega
 have hcm:cap≤9223372036854775807:=by
  rcases hown.2 with ⟨h,rfl⟩|⟨g,cap',_,h,_,_,h2,h3,_⟩
  ·injection h with _ _ h;omega
  ·injection h with _ _ h;unfold maxLen at h3;omega
 clear hnews hown h1 hnew;by_cases hcn:cap=n
 ·subst hcn
  go_enter Tryz.func193,Tryz.ntmps193;go_wp2_with (at_builtin;refine wpList_append_own _ rfl _ _ 22 rfl base 67 i0 (.agg #[.string ⟨#[]⟩,.string ⟨#[]⟩,.int .i64 0,.slice none 0 0,.slice none 0 0]) 5 88 und_obs hi hz0 hz1 hz2 rfl (by decide) _ _ _ rfl HO.out ⟨nb,0,none⟩ 1 1 [u0,u1,u2,u3,u4] rfl rfl HN.out H1.out ?c3x ?c4x ?c5x ?_);case c3x=>unfold maxLen;omega
  case c4x=>omega
  case c5x=>exact hbase
  intro v' w1 hown' hgrow _;have HO2:=hid hown';have HG:=hid hgrow;clear hown' hgrow;go_wp2_with fail;go_ret;exact⟨v',rfl,HO2.out,HG.out⟩
 ·have hcn':¬n=cap:=fun e=>hcn e.symm
  go_enter Tryz.func193,Tryz.ntmps193;go_wp2_with (at_builtin;refine wpList_append_own _ rfl _ _ 22 rfl base 67 i0 (.agg #[.string ⟨#[]⟩,.string ⟨#[]⟩,.int .i64 0,.slice none 0 0,.slice none 0 0]) 5 88 und_obs hi hz0 hz1 hz2 rfl (by decide) _ _ _ rfl HO.out ⟨nb,0,none⟩ 1 1 [u0,u1,u2,u3,u4] rfl rfl HN.out H1.out ?c3y ?c4y ?c5y ?_);case c3y=>unfold maxLen;omega
  case c4y=>omega
  case c5y=>exact hbase
  intro v' w1 hown' hgrow _;have HO2:=hid hown';have HG:=hid hgrow;clear hown' hgrow;go_wp2_with fail;go_ret;exact⟨v',rfl,HO2.out,HG.out⟩
theorem ins5_list (C:List Value)(n i:Nat)(new:List Value)(hi:i<n)(hn:new.length=5)(hC:n*5+5≤C.length)(xs:List Value)(hx:C.take (n*5)=xs):
 ∀C1 C2,C1=C.take ((i+1)*5)++xs.drop (i*5)++C.drop ((i+1)*5+(xs.drop (i*5)).length)→C2=C1.take (i*5)++new++C1.drop (i*5+new.length)→
  C2.length=C.length∧C2.take ((n+1)*5)=xs.take (i*5)++new++xs.drop (i*5):=by
 rintro C1 C2 h1 h2;have hxl:xs.length=n*5:=by rw[← hx,List.length_take];omega
 have hdl:(xs.drop (i*5)).length=n*5-i*5:=by rw[List.length_drop,hxl]
 have e1:C1.take (i*5)=xs.take (i*5):=by
  rw[h1,List.append_assoc,List.take_append_of_le_length (by rw[List.length_take];omega),List.take_take,Nat.min_eq_left (by omega),←hx,List.take_take,Nat.min_eq_left (by omega)]
 have e2:C1.drop (i*5+new.length)=xs.drop (i*5)++C.drop ((i+1)*5+(xs.drop (i*5)).length):=by
  rw[h1,List.append_assoc,List.drop_append,List.drop_eq_nil_of_le (by rw[List.length_take];omega),List.length_take,List.nil_append,hn,Nat.min_eq_left (by omega),show i*5+5-(i+1)*5=0 by omega];rfl
 have hil:(xs.take (i*5)).length=i*5:=by rw[List.length_take];omega
 rw[h2,e1,e2];constructor
 ·simp only[List.length_append,List.length_drop,hil,hn,hxl];omega
 ·rw[← List.append_assoc,List.take_append_of_le_length (by simp only[List.length_append,hil,hn,hdl];omega),List.take_of_length_le (by simp only[List.length_append,hil,hn,hdl];omega)]
theorem c_Ins5_room (w:World)(base g cap n i:Nat)(xs:List Value)(u0 u1 u2 u3 u4:Value)(nb:Nat)(hown:w.ownsRow base 67 5 (.slice (some ⟨g,0,none⟩) n cap) n xs)(hn:n≤100000)(hi:i<n)(hroom:n+1≤cap)
 (hnew:Blk w nb #[u0,u1,u2,u3,u4] 67) (h1:∀u∈[u0,u1,u2,u3,u4],u.oneCell'=true) (h1x:∀u∈xs,u.oneCell'=true) (hne:nb≠g):
 Calls Tryz.prog 193 #[.slice (some ⟨g,0,none⟩) n cap,.int .i64 i,.slice (some ⟨nb,0,none⟩) 1 1] w (RetIn5 w base (.slice (some ⟨g,0,none⟩) n cap) (n+1) (xs.take (i*5)++[u0,u1,u2,u3,u4]++xs.drop (i*5))):=by
 have hxl:=hown.1;obtain⟨hbg,hg,hcm,hcs,hcx⟩:base≤g∧(∃ cur,w.heap[g]? =some (.cells cur 67 (0,0))∧cur.size=cap*5∧cur.toList.take (n*5)=xs)∧cap≤9223372036854775807∧True∧True:=by
  rcases hown.2 with ⟨h,_⟩|⟨g',cap',cur,h,h2,h3,h4,h5,h6,h7⟩
  ·cases h
  ·injection h with h _ hc
   injection h with h
   injection h with h
   subst h hc;exact⟨h2,⟨cur,h3,h6,h7⟩,by unfold maxLen at h5;omega,trivial,trivial⟩
 obtain⟨cur,hg,hcs,hcx⟩:=hg;have hnews:∀j u,[u0,u1,u2,u3,u4][j]? =some u→w.cell? ((⟨nb,0,none⟩:Addr).add j)=some u:=fun j u hj=>by
  rw[Addr.add_lit,Nat.zero_add,hnew.cell j];simpa using hj
 have hcl:cur.toList.length=cap*5:=by simpa using hcs
 have hdl:(xs.drop (i*5)).length=(n-i)*5:=by rw[List.length_drop,hxl];omega
 have hsa:w.shape? nb=some (67,5):=by unfold World.shape?;rw[hnew];rfl
 have hsb:w.shape? g=some (67,cap*5):=by unfold World.shape?;rw[hg];simp[hcs]
 have hov:∀lb cb,(callFunc 254 #[.slice (some ⟨nb,0,none⟩) 1 1,.slice (some ⟨g,(i+1)*5,none⟩) lb cb]).run Tryz.prog w= .ok (.value (.bool false)) w:=fun lb cb=>by
  rw[run_callFunc_extern Tryz.func254 (by kernel_rfl) (by kernel_rfl) (by kernel_rfl) (e:=Extern.SlicesOverlaps.overlaps #[22,22] #[4]) (by kernel_rfl),
   Lib.run_overlaps_apart w 22 4 67 und_obs 5 (fun _=>by kernel_rfl) ⟨nb,0,none⟩ ⟨g,(i+1)*5,none⟩ 1 1 lb cb hne _ _ 5 (cap*5) hsa hsb (by omega) (hnew.frozen 0) (hnew.frozen 5)]
  rfl
 have hcell:∀k,w.cell? ⟨g,k,none⟩=cur.toList[k]? :=fun k=>by simp[World.cell?,hg]
 obtain⟨C1,hC1⟩:∃C1,C1=cur.toList.take ((i+1)*5)++xs.drop (i*5)++cur.toList.drop ((i+1)*5+(xs.drop (i*5)).length):=⟨_,rfl⟩;obtain⟨C2,hC2⟩:∃C2,C2=C1.take (i*5)++[u0,u1,u2,u3,u4]++C1.drop (i*5+[u0,u1,u2,u3,u4].length):=⟨_,rfl⟩;obtain⟨l2,t2⟩:=ins5_list cur.toList n i [u0,u1,u2,u3,u4] hi rfl (by omega) xs hcx C1 C2 hC1 hC2;have hC1l:C1.length=cap*5:=by
  rw[hC1];simp only[List.length_append,List.length_take,List.length_drop,hdl,hcl,hxl];omega
 have hcp1:∀(W:World),W.heap=w.heap→∀ty dc sc,(Builtin.copy_ #[22,22] ty #[.slice (some ⟨g,(i+1)*5,none⟩) (n-i) dc,.slice (some ⟨g,i*5,none⟩) (n+1-i) sc]).run Tryz.prog W= .ok (goInt (n-i)) (W.setRow g C1.toArray):=fun W hW ty dc sc=>by
  have:=run_copy_rowK (P:=Tryz.prog) W 22 22 ty 67 5 g ((i+1)*5) (n-i) dc ⟨g,i*5,none⟩ (n+1-i) sc cur _ (xs.drop (i*5)) und_obs size_ob (by rw[hW];exact hg)
   (by rw[hdl];simp only[Nat.min_def];split<;>omega)
   (fun j v hj=>by
     have hwc:W.cell? ((⟨g,i*5,none⟩:Addr).add j)=w.cell? ((⟨g,i*5,none⟩:Addr).add j):=by simp[World.cell?,hW]
     rw[hwc,Addr.add_lit,hcell];rw[List.getElem?_drop,←hcx,List.getElem?_take]at hj;split at hj
     ·exact hj
     ·cases hj) (by rw[hdl];omega) (fun v hv=>h1x v (List.mem_of_mem_drop hv))
  rw[this,hC1];congr 2;simp only[Nat.min_def];split<;>omega
 have hcp2:∀(W:World),W.heap[g]? =some (.cells C1.toArray 67 (0,0))→(∀ k,W.cell? ⟨nb,k,none⟩=w.cell? ⟨nb,k,none⟩)→∀ty dc,(Builtin.copy_ #[22,22] ty #[.slice (some ⟨g,i*5,none⟩) (n+1-i) dc,.slice (some ⟨nb,0,none⟩) 1 1]).run Tryz.prog W= .ok (goInt 1) (W.setRow g C2.toArray):=fun W hW hWn ty dc=>by
  have:=run_copy_rowK (P:=Tryz.prog) W 22 22 ty 67 5 g (i*5) (n+1-i) dc ⟨nb,0,none⟩ 1 1 C1.toArray _ [u0,u1,u2,u3,u4] und_obs size_ob hW
   (by simp only[List.length_cons,List.length_nil,Nat.min_def];split<;>omega)
   (fun j v hj=>by
     have:=hnews j v hj;rw[Addr.add_lit]at this⊢;rw[hWn];exact this) (by simp only[List.size_toArray,List.length_cons,List.length_nil,hC1l];omega) h1
  rw[this,hC2];congr 2;simp only[Nat.min_def];split<;>omega
 have HG0:=hid hg;have HT2:=hid t2;have HL2:Hid (C2.length=cap*5):=by show _=_;rw[l2,hcl]
 have HBG:=hid hbg;have hgl:g<w.heap.size:=(Array.getElem?_eq_some_iff.1 hg).1;have hgl':=hid hgl;have hz2:¬((i:Int)=(n:Int)):=by omega
 have hz2b:((i:Int)==(n:Int))=false:=by simp;omega
 have hw1:IntKind.i64.wrap ((i:Int)+1)=(i:Int)+1:=IntWalk.i64_in _ (by omega);have hw2:IntKind.i64.wrap ((n:Int)+1)=(n:Int)+1:=IntWalk.i64_in _ (by omega);have hin:i≤n:=by omega
 have hinI:(i:Int)≤(n:Int):=by omega
 have hnc:n≤cap:=by omega
 have htn:((i:Int)+1).toNat=i+1:=by omega
 have htn2:((n:Int)+1).toNat=n+1:=by omega
 have hb2:¬(cap=i+1):=by omega
 have hb4:¬(cap=i):=by omega
 have hrI:¬((cap:Int)<(n:Int)+1):=by omega
 have hrJ:(n:Int)+1≤(cap:Int):=by omega
 have hb3:(i:Int)≤(n:Int)+1:=by omega
 have hb5:(i:Int)+1≤(n:Int)+1:=by omega
 have h0i:(0:Int)≤(i:Int)+1:=by omega
 have h0i2:(0:Int)≤(i:Int):=by omega
 clear hown hxl hcs hcx hcl hdl hsa hsb hcell hC1 hC2 l2 t2 hC1l hnews hnew h1 h1x hbg hg hgl;go_enter Tryz.func193,Tryz.ntmps193;go_wp2_with (simp only[hov]);let S:World→Prop:=fun w'=>True
 (refine wp_region_text 8 [0,1,2,3,4,5,6,7] S (by kernel_rfl) (by kernel_rfl) (by intro _ _ d _ _ h;cases d<;>exact h) ?hS ?_;rotate_left;simp only[xA,xB,xC,xD,xE,xF]);case hS=>exact True.intro
 (repeat ((refine' wpSeq_take rfl _ (by rfl) ?_ ?_;rotate_left;focus(intro w' hS;(try dsimp only at hS);skip;go_simp;(first|done|with_reducible rfl));(try go_frame));(try go_frame)));refine wpSeq_nil ?_;clear S;have q1:=hcp1 w.drew rfl;have q2:=hcp2 (w.drew.setRow g C1.toArray) (setRow_heap w.drew g cur _ _ _ HG0.out) (fun k=>World.cell?_of_block (a:=⟨nb,k,none⟩) (setRow_other w.drew g nb _ hne));have HW:Hid ((((w.drew.setRow g C1.toArray).setRow g C2.toArray)).ownsRow base 67 5 (.slice (some ⟨g,0,none⟩) (n+1) cap) (n+1) (xs.take (i*5)++[u0,u1,u2,u3,u4]++xs.drop (i*5))):=by
  refine⟨?_,.inr ⟨g,cap,C2.toArray,rfl,HBG.out,setRow_heap _ g _ _ _ _ (setRow_heap w.drew g cur _ _ _ HG0.out),by omega,by unfold maxLen;omega,by simpa using HL2.out,by simpa using HT2.out⟩⟩;rw[← HT2.out,List.length_take,HL2.out];omega
 have HGR:Hid (w.grownBy ((w.drew.setRow g C1.toArray).setRow g C2.toArray) (some g)):=
  ⟨rfl,rfl,rfl,by simp,fun k hk hne'=>by rw[setRow_other _ _ _ _ (fun e=>hne' (by rw[e])),setRow_other _ _ _ _ (fun e=>hne' (by rw[e]))];rfl⟩
 clear hcp1 hcp2;go_wp2_with fail;go_ret;exact⟨_,rfl,HW.out,HGR.out⟩
theorem ins5_list2 (C:List Value)(n i:Nat)(new:List Value)(hi:i<n)(hn:new.length=5)(hC:n*5+5≤C.length)(xs:List Value)(hxl:xs.length=n*5)(hx:C.take (i*5)=xs.take (i*5)):
 ∀C1 C2,C1=C.take (i*5)++new++C.drop (i*5+new.length)→C2=C1.take ((i+1)*5)++xs.drop (i*5)++C1.drop ((i+1)*5+(xs.drop (i*5)).length)→
  C1.length=C.length∧C2.length=C.length∧C2.take ((n+1)*5)=xs.take (i*5)++new++xs.drop (i*5):=by
 rintro C1 C2 h1 h2;have hdl:(xs.drop (i*5)).length=n*5-i*5:=by rw[List.length_drop,hxl]
 have hil:(xs.take (i*5)).length=i*5:=by rw[List.length_take];omega
 have l1:C1.length=C.length:=by
  rw[h1,hx];simp only[List.length_append,List.length_drop,hil,hn];omega
 have e1:C1.take ((i+1)*5)=xs.take (i*5)++new:=by
  rw[h1,hx,List.take_append_of_le_length (by simp only[List.length_append,hil,hn];omega),List.take_of_length_le (by simp only[List.length_append,hil,hn];omega)]
 refine⟨l1,?_,?_⟩
 ·rw[h2,e1];simp only[List.length_append,List.length_drop,hil,hn,hdl,l1,hxl];omega
 ·rw[h2,e1,List.take_append_of_le_length (by simp only[List.length_append,hil,hn,hdl];omega),List.take_of_length_le (by simp only[List.length_append,hil,hn,hdl];omega)]
theorem zero5_size (z:Array Value)(k:Nat)(hz:z.size=5):(Builtin.zeroCells z k).size=k*5:=by
 rw[size_zeroCells,hz]
theorem c_Ins5_grow (w:World)(base g n i:Nat)(xs:List Value)(u0 u1 u2 u3 u4:Value)(nb:Nat)(hown:w.ownsRow base 67 5 (.slice (some ⟨g,0,none⟩) n n) n xs)(hn:n≤100000)(hi:i<n)
 (hnew:Blk w nb #[u0,u1,u2,u3,u4] 67) (h1:∀u∈[u0,u1,u2,u3,u4],u.oneCell'=true) (h1x:∀u∈xs,u.oneCell'=true) (hbase:base≤w.heap.size):
 Calls Tryz.prog 193 #[.slice (some ⟨g,0,none⟩) n n,.int .i64 i,.slice (some ⟨nb,0,none⟩) 1 1] w (RetIn5 w base (.slice (some ⟨g,0,none⟩) n n) (n+1) (xs.take (i*5)++[u0,u1,u2,u3,u4]++xs.drop (i*5))):=by
 have hxl:=hown.1;obtain⟨cur,hg,hcs,hcx⟩:∃cur,w.heap[g]? =some (.cells cur 67 (0,0))∧cur.size=n*5∧cur.toList.take (n*5)=xs:=by
  rcases hown.2 with ⟨h,_⟩|⟨g',cap',cur,h,h2,h3,h4,h5,h6,h7⟩
  ·cases h
  ·injection h with h _ hc
   injection h with h
   injection h with h
   subst h hc;exact⟨cur,h3,h6,h7⟩
 have hcx':cur.toList=xs:=by rw[← hcx,List.take_of_length_le (by simp[hcs])]
 have hnews:∀j u,[u0,u1,u2,u3,u4][j]? =some u→w.cell? ((⟨nb,0,none⟩:Addr).add j)=some u:=fun j u hj=>by
  rw[Addr.add_lit,Nat.zero_add,hnew.cell j];simpa using hj
 have hdl:(xs.drop (i*5)).length=(n-i)*5:=by rw[List.length_drop,hxl];omega
 have hil:(xs.take (i*5)).length=i*5:=by rw[List.length_take];omega
 have hcell:∀k,w.cell? ⟨g,k,none⟩=xs[k]? :=fun k=>by rw[← hcx'];simp[World.cell?,hg]
 obtain⟨i0,hi0,hz0,hzs,hzb⟩:=info_parts info_ob;obtain⟨cap',hcap'⟩:∃c,c=grownCap w (i+(n+1-i)) n 67:=⟨_,rfl⟩;have hge:n+1≤cap':=by rw[hcap'];have:=grownCap_ge w (i+(n+1-i)) n 67;omega
 have hle:cap'≤9223372036854775807:=by rw[hcap'];have:=grownCap_le_maxLen w (i+(n+1-i)) n 67 (by unfold maxLen;omega);unfold maxLen at this;exact this
 obtain⟨Z,hZ⟩:∃Z:Array Value,Z=(Value.agg #[.string ⟨#[]⟩,.string ⟨#[]⟩,.int .i64 0,.slice none 0 0,.slice none 0 0]).cells:=⟨_,rfl⟩;have hZs:Z.size=5:=by rw[hZ];rfl
 obtain⟨C,hC⟩:∃C:Array Value,C=(xs.take (i*5)).toArray++Builtin.zeroCells Z (n+1-i)++Builtin.zeroCells Z (cap'-(i+(n+1-i))):=⟨_,rfl⟩;have hCl:C.toList.length=cap'*5:=by
  rw[hC];simp only[Array.length_toList,Array.size_append,zero5_size Z _ hZs,List.size_toArray,hil];omega
 have hCt:C.toList.take (i*5)=xs.take (i*5):=by
  rw[hC];simp only[Array.toList_append];rw[List.append_assoc,List.take_append_of_le_length (by simp[hil]),List.take_of_length_le (by simp[hil])]
 have hold:(Builtin.firstCells i0.size i (.slice (some ⟨g,0,none⟩) i n)).run Tryz.prog w.drew= .ok (xs.take (i*5)).toArray w.drew:=by
  rw[hzs];refine run_firstCells_some w.drew 5 i ⟨g,0,none⟩ i n _ (by rw[hil]) (fun j v hj=> ?_);rw[Addr.add_lit,Nat.zero_add];show w.cell? _=_;rw[hcell];rw[List.getElem?_take]at hj;split at hj
  ·exact hj
  ·cases hj
 have hrun:∀ty,(Builtin.append_ #[22,3] ty #[.slice (some ⟨g,0,none⟩) i n,.int .i64 ((n+1-i:Nat):Int)]).run Tryz.prog w=
  .ok (.slice (some ⟨w.heap.size,0,none⟩) (n+1) cap') (w.drew.alloc (.cells C 67)):=fun ty=>by
  have:=Lib.run_append_grow_zeros (P:=Tryz.prog) w 22 3 ty 67 i0 _ .i64 .i64 und_obs (by kernel_rfl) hi0 hz0 (some ⟨g,0,none⟩) i n _ hold (n+1-i) (by omega) (by rw[hzs];decide) (by omega) (by omega) (by rw[hzb];omega) (by rw[hzb];exact growslice_fits (by omega) (by omega));rw[this,hC,hcap',hZ,show i+(n+1-i)=n+1 by omega]
 obtain⟨C1,hC1⟩:∃C1,C1=C.toList.take (i*5)++[u0,u1,u2,u3,u4]++C.toList.drop (i*5+[u0,u1,u2,u3,u4].length):=⟨_,rfl⟩;obtain⟨C2,hC2⟩:∃C2,C2=C1.take ((i+1)*5)++xs.drop (i*5)++C1.drop ((i+1)*5+(xs.drop (i*5)).length):=⟨_,rfl⟩;obtain⟨l1,l2,t2⟩:=ins5_list2 C.toList n i [u0,u1,u2,u3,u4] hi rfl (by omega) xs hxl hCt C1 C2 hC1 hC2;have hnbl:=hnew.lt;have hgl:g<w.heap.size:=(Array.getElem?_eq_some_iff.1 hg).1;have q1:∀ty dc,(Builtin.copy_ #[22,22] ty #[.slice (some ⟨w.heap.size,i*5,none⟩) (n+1-i) dc,.slice (some ⟨nb,0,none⟩) 1 1]).run Tryz.prog (w.drew.alloc (.cells C 67))= .ok (goInt 1) ((w.drew.alloc (.cells C 67)).setRow w.heap.size C1.toArray):=fun ty dc=>by
  have:=run_copy_rowK (P:=Tryz.prog) (w.drew.alloc (.cells C 67)) 22 22 ty 67 5 w.heap.size (i*5) (n+1-i) dc ⟨nb,0,none⟩ 1 1 C _ [u0,u1,u2,u3,u4] und_obs size_ob (heap_new w.drew _)
   (by simp only[List.length_cons,List.length_nil,Nat.min_def];split<;>omega)
   (fun j v hj=>by
     have h:=hnews j v hj;rw[Addr.add_lit]at h⊢;rw[World.cell?_of_block (w:=w) (a:=⟨nb,0+j,none⟩) (Below.heap_alloc w.drew _ nb hnbl)];exact h) (by simp only[List.length_cons,List.length_nil];rw[Array.length_toList]at hCl;omega) h1
  rw[this,hC1];congr 2;simp only[Nat.min_def];split<;>omega
 have q2:∀ty dc sc,(Builtin.copy_ #[22,22] ty #[.slice (some ⟨w.heap.size,(i+1)*5,none⟩) (n-i) dc,.slice (some ⟨g,i*5,none⟩) (n-i) sc]).run Tryz.prog ((w.drew.alloc (.cells C 67)).setRow w.heap.size C1.toArray).drew= .ok (goInt (n-i)) (((w.drew.alloc (.cells C 67)).setRow w.heap.size C1.toArray).drew.setRow w.heap.size C2.toArray):=fun ty dc sc=>by
  have:=run_copy_rowK (P:=Tryz.prog) ((w.drew.alloc (.cells C 67)).setRow w.heap.size C1.toArray).drew 22 22 ty 67 5 w.heap.size ((i+1)*5) (n-i) dc ⟨g,i*5,none⟩ (n-i) sc C1.toArray _ (xs.drop (i*5)) und_obs size_ob (setRow_heap _ _ C _ _ _ (heap_new w.drew _))
   (by rw[hdl];simp only[Nat.min_def];split<;>omega)
   (fun j v hj=>by
     rw[Addr.add_lit]
     have e1:((w.drew.alloc (.cells C 67)).setRow w.heap.size C1.toArray).drew.cell? ⟨g,i*5+j,none⟩=w.cell? ⟨g,i*5+j,none⟩:=
      World.cell?_of_block (w:=w) (a:=⟨g,i*5+j,none⟩) ((setRow_other _ w.heap.size g _ (by omega)).trans (Below.heap_alloc w.drew _ g hgl))
     rw[e1,hcell];rwa[List.getElem?_drop]at hj) (by simp only[List.size_toArray,hdl,l1,hCl];omega) (fun v hv=>h1x v (List.mem_of_mem_drop hv))
  rw[this,hC2];congr 2;simp only[Nat.min_def];split<;>omega
 have HW:Hid ((((w.drew.alloc (.cells C 67)).setRow w.heap.size C1.toArray).drew.setRow w.heap.size C2.toArray).ownsRow base 67 5 (.slice (some ⟨w.heap.size,0,none⟩) (n+1) cap') (n+1) (xs.take (i*5)++[u0,u1,u2,u3,u4]++xs.drop (i*5))):=by
  refine⟨?_,.inr ⟨w.heap.size,cap',C2.toArray,rfl,hbase,setRow_heap _ _ _ _ _ _ (setRow_heap _ _ C _ _ _ (heap_new w.drew _)),by omega,by unfold maxLen;omega,by simp only[List.size_toArray];omega,by simpa using t2⟩⟩;rw[← t2,List.length_take];omega
 have HGR:Hid (w.grownBy (((w.drew.alloc (.cells C 67)).setRow w.heap.size C1.toArray).drew.setRow w.heap.size C2.toArray) (some g)):=
  ⟨rfl,rfl,rfl,by simp,fun k hk _=>by
    rw[setRow_other _ _ _ _ (by omega)];show(World.setRow _ _ _).heap[k]? =_;rw[setRow_other _ _ _ _ (by omega)];exact Below.heap_alloc w.drew _ k hk⟩
 obtain⟨W1,hW1⟩:∃W1,W1=(w.drew.alloc (.cells C 67)).setRow w.heap.size C1.toArray:=⟨_,rfl⟩;rw[← hW1]at q1 q2 HW HGR;obtain⟨W2,hW2⟩:∃W2,W2=W1.drew.setRow w.heap.size C2.toArray:=⟨_,rfl⟩;rw[← hW2]at q2 HW HGR;have q1':∀ty dc,(Builtin.copy_ #[22,22] ty #[.slice (some ⟨w.heap.size,i*5,none⟩) (n+1-i) dc,.slice (some ⟨nb,0,none⟩) 1 1]).run Tryz.prog (w.alloc (.cells C 67)).drew= .ok (goInt 1) W1:=q1;clear q1 hW1 hW2;have hz2:¬((i:Int)=(n:Int)):=by omega
 have hz2b:((i:Int)==(n:Int))=false:=by simp;omega
 have hw1:IntKind.i64.wrap ((i:Int)+1)=(i:Int)+1:=IntWalk.i64_in _ (by omega);have hw2:IntKind.i64.wrap ((n:Int)+1)=(n:Int)+1:=IntWalk.i64_in _ (by omega);have hkk:((n:Int)+1-(i:Int))=((n+1-i:Nat):Int):=by omega
 have hrun2:=hrun;rw[← hkk]at hrun2;clear hkk hrun;have hinI:(i:Int)≤(n:Int):=by omega
 have htn:((i:Int)+1).toNat=i+1:=by omega
 have hb2:¬(cap'=i+1):=by omega
 have hb4:¬(n=i):=by omega
 have hb5:¬(cap'=i):=by omega
 have hrI:(n:Int)<(n:Int)+1:=by omega
 have hb3:(i:Int)≤(n:Int)+1:=by omega
 have hb6:(i:Int)+1≤(n:Int)+1:=by omega
 have h0i:(0:Int)≤(i:Int)+1:=by omega
 have h0i2:(0:Int)≤(i:Int):=by omega
 clear hown hxl hcs hcx hcx' hdl hil hcell hC1 hC2 l1 l2 t2 hnews hnew h1 h1x hg hgl hnbl hold hC hCl hCt hZ hZs hcap' hz0 hzs hzb hi0;go_enter Tryz.func193,Tryz.ntmps193;go_wp2_with (at_builtin;refine Lib.wpList_append_run _ rfl _ _ _ _ rfl _ _ rfl rfl _ _ (hrun2 _) ?_);let S:World→Prop:=fun w'=>True
 (refine wp_region_text 8 [0,1,2,3,4,5,6,7] S (by kernel_rfl) (by kernel_rfl) (by intro _ _ d _ _ h;cases d<;>exact h) ?hS ?_;rotate_left;simp only[xA,xB,xC,xD,xE,xF]);case hS=>exact True.intro
 (repeat ((refine' wpSeq_take rfl _ (by rfl) ?_ ?_;rotate_left;focus(intro w' hS;(try dsimp only at hS);skip;go_simp;(first|done|with_reducible rfl));(try go_frame));(try go_frame)));refine wpSeq_nil ?_;clear S;go_wp2_with fail;go_ret;exact⟨_,rfl,HW.out,HGR.out⟩
theorem c_Ins5 (w:World)(base:Nat)(v:Value)(n i:Nat)(xs:List Value)(u0 u1 u2 u3 u4:Value)(nb:Nat)(hown:w.ownsRow base 67 5 v n xs)(hi:i≤n)(hn:n≤100000)
 (hnew:Blk w nb #[u0,u1,u2,u3,u4] 67) (h1:∀u∈[u0,u1,u2,u3,u4],u.oneCell'=true) (h1x:∀u∈xs,u.oneCell'=true) (hne:v.ownBlock≠some nb) (hbase:base≤w.heap.size):
 Calls Tryz.prog 193 #[v,.int .i64 i,.slice (some ⟨nb,0,none⟩) 1 1] w (RetIn5 w base v (n+1) (xs.take (i*5)++[u0,u1,u2,u3,u4]++xs.drop (i*5))):=by
 by_cases hin:i=n
 ·subst hin
  have hl:=hown.1;rw[List.take_of_length_le (by omega),List.drop_eq_nil_of_le (by omega),List.append_nil];exact c_Ins5_end w base v i xs u0 u1 u2 u3 u4 nb hown hn hnew h1 hbase
 ·have hown':=hown
  rcases hown.2 with ⟨h,h0⟩|⟨g,cap,cur,rfl,h2,h3,h4,h5,h6,h7⟩
  ·omega
  ·by_cases hr:n+1≤cap
   ·exact c_Ins5_room w base g cap n i xs u0 u1 u2 u3 u4 nb hown' hn (by omega) hr hnew h1 h1x (fun e=>hne (by rw[e];rfl))
   ·obtain rfl:n=cap:=by omega
    exact c_Ins5_grow w base g n i xs u0 u1 u2 u3 u4 nb hown' hn (by omega) hnew h1 h1x hbase
def vw (w:World)(B:Nat)(u:Value)(wr:World):World:=mask (w.heap.size+1) (mask B (msk u wr))
structure Lof (w wr:World)(B:Nat)(ls:List (List Ob))(k:Nat)(u:Value)(vals:List Value):Prop where
 own:wr.ownsRow w.heap.size 33 1 u k vals
 rows:∀j,j<k→ObsR (vw w B u wr) (vals[j]?.getD undef) (ls[j]?.getD [])
 low:w.heap.size+1<B
theorem Lof.neB {w wr:World}{B:Nat}{ls:List (List Ob)}{k:Nat}{u:Value}{vals:List Value}(h:Lof w wr B ls k u vals){cs:Array Value}(hG:Blk wr B cs 36):u.ownBlock≠some B:=fun e=>(owns_blk hG h.own (by decide) _ e) rfl
theorem Lof.new {w wr w1:World}{B:Nat}{ls:List (List Ob)}{k:Nat}{u:Value}{vals:List Value}(h:Lof w wr B ls k u vals)(h0:Below w.heap.size w wr)(h1:Below wr.heap.size wr w1)(hB:B<wr.heap.size)
 {xv:Value} {ys:List (List Value)} {l:List Ob} (hys:ObC w ys l) (hown:w1.ownsRow wr.heap.size 72 5 xv l.length ys.flatten) (hln:l.length*88≤140737488355328):ObsR (vw w B u w1) xv l:=by
 obtain⟨a,cap,rfl,h2,h3,hc⟩:=owns_at hown;have hu:∀g,u.ownBlock=some g→w.heap.size≤g∧g<wr.heap.size:=fun g e=>h.own.lt g e;have hlow:=h.low;refine obs_mk (hys.sub ?_) ((((hc.msk (u:=u) fun n c g e e2=> ?_).mask (b:=B) fun n c e=> ?_).mask (b:=w.heap.size+1) fun n c e=> ?_)) h2 h3 hln
 ·have s0:Sub w w1:=(sub_below h0).trans (sub_below h1)
  exact((s0.toMsk fun g e=>(hu g e).1).toMask (by omega)).toMask (by omega)
 ·have e':(Value.slice a l.length cap).ownBlock=some g:=by cases a<;>exact e
  have:=(hown.lt g e').1;have:=(hu g e2).2;omega
 ·have e':(Value.slice a l.length cap).ownBlock=some B:=by cases a<;>exact e
  have:=(hown.lt B e').1;omega
 ·have e':(Value.slice a l.length cap).ownBlock=some (w.heap.size+1):=by cases a<;>exact e
  have:=(hown.lt _ e').1;omega
theorem Lof.sub {w wr w1 w2:World}{B:Nat}{ls:List (List Ob)}{k:Nat}{u u':Value}{vals:List Value}(h:Lof w wr B ls k u vals)(h1:Below wr.heap.size wr w1){o:Obj}(hg:(w1.alloc o).grownBy w2 u.ownBlock)(hat:u'.ownBlock=u.ownBlock∨u'.ownBlock=some (w1.heap.size+1)):
 Sub (vw w B u wr) (vw w B u' w2)∧Sub (vw w B u w1) (vw w B u' w2):=by
 have ha:Sub w1 (w1.alloc o):=sub_below ((Below.refl _ w1).alloc (Nat.le_refl _) _);have s2:=(ha.msk u).trans (sub_app hg (by rw[World.size_alloc];exact hat));exact⟨(((sub_below h1).msk u).trans s2).mask B |>.mask _,(s2.mask B).mask _⟩
theorem Lof.zero (w wr:World)(B:Nat)(ls:List (List Ob))(hB:w.heap.size+1<B):Lof w wr B ls 0 (.slice none 0 0) []:=⟨World.ownsRow_nil _ _ _ _,fun j hj=>by omega,hB⟩
theorem Lof.app {w wr w1 w2:World}{B:Nat}{ls:List (List Ob)}{k:Nat}{u u':Value}{vals:List Value}(h:Lof w wr B ls k u vals)(h1:Below wr.heap.size wr w1){xv:Value}(hx:ObsR (vw w B u w1) xv (ls[k]?.getD [])){o:Obj}
 (hown:w2.ownsRow w.heap.size 33 1 u' (k+1) (vals++[xv])) (hg:(w1.alloc o).grownBy w2 u.ownBlock) (hat:u'.ownBlock=u.ownBlock∨u'.ownBlock=some (w1.heap.size+1)):Lof w w2 B ls (k+1) u' (vals++[xv]):=by
 obtain⟨s1,s2⟩:=h.sub h1 hg hat;have hl:vals.length=k:=by have:=h.own.1;omega
 refine⟨hown,fun j hj=> ?_,h.low⟩;by_cases e:j<k
 ·rw[List.getElem?_append_left (by omega)]
  exact(h.rows j e).sub s1
 ·obtain rfl:j=k:=by omega
  rw[List.getElem?_append_right (by omega),hl,Nat.sub_self];exact hx.sub s2
theorem vw_set (w w2:World)(B k:Nat)(u y:Value):Sub (vw w B u w2) (vw w B u (w2.setCell ⟨B,k,none⟩ y)):=((subX_set w2 B k y).msk u).mask.mask _
theorem Lof.set {w wr:World}{B:Nat}{ls:List (List Ob)}{k:Nat}{u:Value}{vals:List Value}(h:Lof w wr B ls k u vals){cs:Array Value}(hG:Blk wr B cs 36)(j:Nat)(y:Value):Lof w (wr.setCell ⟨B,j,none⟩ y) B ls k u vals:=
 ⟨hG.owns h.own (h.neB hG) j y,fun i hi=>(h.rows i hi).sub (vw_set _ _ _ _ _ _),h.low⟩
theorem Lof.done {w wr:World}{B:Nat}{ls:List (List Ob)}{u:Value}{vals:List Value}(h:Lof w wr B ls ls.length u vals){cs cs':Array Value}(hG:Blk wr B cs 36)(hR:Blk wr (w.heap.size+1) cs' 36)(hl:ls.length*24≤140737488355328)(hn:u.ownBlock≠some (w.heap.size+1)):LsoR (vw w B (.slice none 0 0) wr) u ls:=by
 obtain⟨a,cap,rfl,h2,h3,hc⟩:=owns_at h.own;have hneB:=h.neB hG;refine⟨a,cap,vals,rfl,h2,h3,hl,(hc.mask (b:=B) fun n c e=>hneB (by cases a<;>exact e)).mask (b:=w.heap.size+1) fun n c e=>hn (by cases a<;>exact e),by have:=h.own.1;omega,fun k hk=>(h.rows k hk).sub ?_⟩;exact((sub_unmsk _ _).mask B).mask _
theorem blk3 {w:World}{r:Nat}{x0 x1 x2:Value}{t:TypeId}(h:Blk w r #[x0,x1,x2] t)(y0 y1 y2:Value):Blk (((w.setCell ⟨r,0,none⟩ y0).setCell ⟨r,1,none⟩ y1).setCell ⟨r,2,none⟩ y2) r #[y0,y1,y2] t:=by
 have:=((h.set 0 y0).set 1 y1).set 2 y2;simpa using this
theorem grown_put3 (w:World)(b:Nat)(y0 y1 y2:Value):w.grownBy (((w.setCell ⟨b,0,none⟩ y0).setCell ⟨b,1,none⟩ y1).setCell ⟨b,2,none⟩ y2) (some b):=
 grown_tr (grown_tr (grown_put _ _ _ _) (grown_put _ _ _ _)) (grown_put _ _ _ _)
theorem below3 {B:Nat}{W0 w:World}{r:Nat}(h:Below B W0 w)(hr:B≤r)(y0 y1 y2:Value):Below B W0 (((w.setCell ⟨r,0,none⟩ y0).setCell ⟨r,1,none⟩ y1).setCell ⟨r,2,none⟩ y2):=
 ((h.setCell (p:=⟨r,0,none⟩) hr _).setCell (p:=⟨r,1,none⟩) hr _).setCell (p:=⟨r,2,none⟩) hr _
end Go.Proofs.YtclgllmipcbagaaGreatDoor
