/-
  Parts of the proof: XUr XUe
-/
import Derived.Deep.Strs
import Derived.Test.YtclgllmipcbagaaGreatDoorBk24
import Derived.Test.YtclgllmipcbagaaGreatDoorBk15
import Derived.Test.YtclgllmipcbagaaGreatDoorBk21
import Derived.Test.YtclgllmipcbagaaGreatDoorBk18
import Derived.Stop.LaidErr
import Derived.Lib.LaidTab
import Derived.MakeChecks
import Derived.Test.YtclgllmipcbagaaGreatDoorTie
import Derived.Test.YtclgllmipcbagaaGreatDoorCards
import Derived.LaidMore
import Derived.Lay
import Derived.SevenTiedAt
import Derived.Stop.Joined
import Derived.HandedShaped
import Derived.Shelf.Vars
import Derived.Test.YtclgllmipcbagaaGreatDoorRows
import Derived.Test.YtclgllmipcbagaaGreatDoorBk22
namespace Go.Proofs.YtclgllmipcbagaaGreatDoor
set_option linter.unusedVariables false
set_option linter.unusedSimpArgs false
set_option maxRecDepth 100000
set_option maxHeartbeats 16000000
open Go.ChangeShapes Go.WideShapes Go.ChangeAt Go.RowKit Go.Deep Go.Joins
theorem cells_Obj:Tryz.prog.cellsOf 67=5:=by kernel_rfl
theorem cells_Cmd:Tryz.prog.cellsOf 31=8:=by kernel_rfl
theorem cells_str:Tryz.prog.cellsOf 9=1:=by kernel_rfl
theorem cells_gr:Tryz.prog.cellsOf 28=2:=by kernel_rfl
theorem cells_dv:Tryz.prog.cellsOf 65=1:=by kernel_rfl
theorem cells_inS:Tryz.prog.cellsOf 29=1:=by kernel_rfl
theorem cells_obS:Tryz.prog.cellsOf 22=1:=by kernel_rfl
theorem cells_loS:Tryz.prog.cellsOf 23=1:=by kernel_rfl
theorem cells_eds:Tryz.prog.cellsOf 26=1:=by kernel_rfl
theorem bytes_Obj:Tryz.prog.bytesOf 67=88:=by kernel_rfl
theorem bytes_Cmd:Tryz.prog.bytesOf 31=120:=by kernel_rfl
theorem bytes_obS:Tryz.prog.bytesOf 22=24:=by kernel_rfl
theorem und_Objs:Tryz.prog.underlying 22=some (.slice 67):=by kernel_rfl
theorem und_Lso:Tryz.prog.underlying 23=some (.slice 22):=by kernel_rfl
theorem und_Cmds:Tryz.prog.underlying 78=some (.slice 31):=by kernel_rfl
theorem und_strR:Tryz.prog.underlying 9=some .string:=by kernel_rfl
theorem flat_at {ys:List (List Value)}{n:Nat}:∀(h:∀y∈ys,y.length=n) (i j:Nat),i<ys.length→j<n→ys.flatten[i*n+j]? =(ys[i]?.getD [])[j]? :=by
 induction ys with
 |nil=>intro _ i j hi;simp at hi
 |cons y ys ih=>
  intro h i j hi hj
  have hy:=h y (List.mem_cons_self ..)
  rw[List.flatten_cons]
  cases i with
  |zero=>
   rw[Nat.zero_mul,Nat.zero_add,List.getElem?_append_left (by omega)]
   rfl
  |succ i=>
   rw[List.getElem?_append_right (by rw[hy,Nat.succ_mul];omega),hy,show(i+1)*n+j-n=i*n+j by rw[Nat.succ_mul];omega,ih (fun z hz=>h z (List.mem_cons_of_mem _ hz)) i j (by simpa using hi) hj]
   rfl
theorem flat_len {ys:List (List Value)}{n:Nat}:(∀ y∈ys,y.length=n)→ys.flatten.length=ys.length*n:=by
 induction ys with
 |nil=>intro _;simp
 |cons y ys ih=>
  intro h
  rw[List.flatten_cons,List.length_append,h y (List.mem_cons_self ..),ih fun z hz=>h z (List.mem_cons_of_mem _ hz),List.length_cons,Nat.succ_mul];omega
section
variable {H : Type} {enc : TypeId × Value → H} {W : World} {base : Nat} {held : Bool}
theorem struct_obj:∃f0 f1 f2 f3:Field,Tryz.prog.underlying 67=some (.struct #[f0,f1,f2,f3])∧f0.type=9∧f1.type=9∧f2.type=28∧f3.type=65∧f0.offset=0∧f1.offset=1∧f2.offset=2∧f3.offset=4:=
 ⟨_,_,_,_,Tryz.underlying67,rfl,rfl,rfl,rfl,rfl,rfl,rfl,rfl⟩
theorem struct_gr:∃f0 f1:Field,Tryz.prog.underlying 28=some (.struct #[f0,f1])∧f0.type=3∧f1.type=26∧f0.offset=0∧f1.offset=1:=
 ⟨_,_,Tryz.underlying28,rfl,rfl,rfl,rfl⟩
theorem list4 {α:Type}{l:List α}(h:l.length=4):∃x y z u,l=[x,y,z,u]:=by
 match l,h with
 |[x,y,z,u],_=>exact⟨x,y,z,u,rfl⟩
theorem list5 {α:Type}{l:List α}(h:l.length=5):∃x y z u v,l=[x,y,z,u,v]:=by
 match l,h with
 |[x,y,z,u,v],_=>exact⟨x,y,z,u,v,rfl⟩
theorem wAll_memS {H:Type}{P:Program}{e:TypeId}:∀{l:List (DataW H)} {d:DataW H},d∈l→∀n∈d.weights P e,n∈DataW.weightsAll P e l
 |[],_,h,_,_=>by cases h
 |x::l,d,h,n,hn=>by
  rw[DataW.weightsAll,List.mem_append];rcases List.mem_cons.1 h with rfl|h
  ·exact .inl hn
  ·exact .inr (wAll_memS h n hn)
theorem reads_gr {fuel:Nat}{v0 v1:Value}{y:DataW H×List MemPlace}(h:DataW.trod enc Tryz.prog W base (fun _=>true) held fuel 28 [v0,v1]=some y)
 (hs:(y.1.weights Tryz.prog 28).all (· ≤reachBytes)=true):∃g:G,v0= .int .i64 g.n∧EdgesR W v1 g.es:=by
 obtain⟨e0,e1,hg,u0,u1,p0,p1⟩:=struct_gr;obtain⟨z0,z1,m,hx2,_,g0,g1⟩:=trod_struct2 hg h;rw[u0,p0,cells_int]at g0;rw[u1,p1,cells_eds]at g1;have g0:DataW.trod enc Tryz.prog W base (fun _=>true) held m 3 [v0]=some z0:=g0;have g1:DataW.trod enc Tryz.prog W base (fun _=>true) held m 26 [v1]=some z1:=g1;subst hx2;obtain⟨zn,ez,_⟩:=DataW.trod_int und_int g0;simp at ez;subst ez;have hse:(z1.1.weights Tryz.prog 26).all (· ≤reachBytes)=true:=by
  rw[List.all_eq_true]at hs⊢;intro k hk;refine hs k ?_;simp only[DataW.weights,hg,xA,xB,DataW.weightsEach,u0,u1,List.mem_append];exact .inr (.inl hk)
 obtain⟨es,hes⟩:=reads_edges g1 hse;exact⟨⟨zn,es⟩,rfl,hes⟩
theorem reads_obj {fuel:Nat}{cs:List Value}{y:DataW H×List MemPlace}(h:DataW.trod enc Tryz.prog W base (fun _=>true) held fuel 67 cs=some y)
 (hs:(y.1.weights Tryz.prog 67).all (· ≤reachBytes)=true):∃x:Ob,ObV W x cs∧SmOb x:=by
 obtain⟨f0,f1,f2,f3,hu,t0,t1,t2,t3,o0,o1,o2,o3⟩:=struct_obj;obtain⟨xs,n,_,hy,hlen,hxl,hf⟩:=DataW.trod_struct hu h;rw[cells_Obj]at hlen;obtain⟨y0,y1,y2,y3,rfl⟩:=list4 hxl;obtain⟨v0,v1,v2,v3,v4,rfl⟩:=list5 hlen;have g0:=hf 0 f0 rfl;have g1:=hf 1 f1 rfl;have g2:=hf 2 f2 rfl;have g3:=hf 3 f3 rfl;rw[t0,o0,cells_str]at g0;rw[t1,o1,cells_str]at g1;rw[t2,o2,cells_gr]at g2;rw[t3,o3,cells_dv]at g3;have g0:DataW.trod enc Tryz.prog W base (fun _=>true) held n 9 [v0]=some y0:=g0;have g1:DataW.trod enc Tryz.prog W base (fun _=>true) held n 9 [v1]=some y1:=g1;have g2:DataW.trod enc Tryz.prog W base (fun _=>true) held n 28 [v2,v3]=some y2:=g2
 have g3:DataW.trod enc Tryz.prog W base (fun _=>true) held n 65 [v4]=some y3:=g3;obtain⟨s0,e0,x0,_⟩:=DataW.trod_string und_strR g0;obtain⟨s1,e1,x1,_⟩:=DataW.trod_string und_strR g1;simp at e0 e1;subst e0 e1 hy x0 x1;have hn0:s0.data.toList.length≤140737488355328:=by
  have:=List.all_eq_true.1 hs s0.data.toList.length (by
   simp only[DataW.weights,hu,xA,xB,DataW.weightsEach,t0,t1,t2,t3,List.mem_append];exact .inl (by simp))
  have h2:=reachBytes_lt;have h3:s0.data.toList.length≤reachBytes:=by simpa using this
  omega
 have hn1:s1.data.toList.length≤140737488355328:=by
  have:=List.all_eq_true.1 hs s1.data.toList.length (by
   simp only[DataW.weights,hu,xA,xB,DataW.weightsEach,t0,t1,t2,t3,List.mem_append];exact .inr (.inl (by simp)))
  have h2:=reachBytes_lt;have h3:s1.data.toList.length≤reachBytes:=by simpa using this
  omega
 have hw:∀k,k∈y2.1.weights Tryz.prog 28∨k∈y3.1.weights Tryz.prog 65→decide (k≤reachBytes)=true:=fun k hk=>by
  refine List.all_eq_true.1 hs k ?_;simp only[DataW.weights,hu,xA,xB,DataW.weightsEach,t0,t1,t2,t3,List.mem_append];rcases hk with hk|hk
  ·exact .inr (.inr (.inl hk))
  ·exact .inr (.inr (.inr (.inl hk)))
 obtain⟨g,rfl,hes⟩:=reads_gr g2 (List.all_eq_true.2 fun k hk=>hw k (.inl hk));obtain⟨d,hd⟩:=reads_ints und_Div g3 (List.all_eq_true.2 fun k hk=>hw k (.inr hk));exact⟨⟨s0.data.toList,s1.data.toList,g,d⟩,⟨_,_,rfl,hes,hd⟩,hn0,hn1⟩
theorem reads_objs {fuel:Nat}{v:Value}{y:DataW H×List MemPlace}(h:DataW.trod enc Tryz.prog W base (fun _=>true) held fuel 22 [v]=some y)
 (hs:(y.1.weights Tryz.prog 22).all (· ≤reachBytes)=true):∃l,ObsR W v l∧SmObs l:=by
 rcases open_slice und_Objs h with ⟨hcs,rfl⟩|⟨a,len,cap,m,n,D,Pl,hcs,_,hl,hm,hmm,rfl,hx⟩
 ·simp at hcs
  subst hcs;exact⟨[],ObsR.nil _,fun k hk=>by cases hk⟩
 ·simp at hcs
  subst hcs;simp only[if_true]at hmm;subst hmm;have each:∀i,i<len→∃x:Ob×List Value,(ObV W x.1 x.2∧SmOb x.1)∧∀j,j<5→W.cell? (a.add (i*5+j))=x.2[j]? :=by
   intro i hi;obtain⟨cs',h1,h2⟩:=hx i (by omega);rw[cells_Obj]at h1;obtain⟨_,hlen,hcell⟩:=World.cells?_some h1;obtain⟨x,hxv⟩:=reads_obj h2 (by
    rw[List.all_eq_true]at hs⊢;intro k hk;refine hs k ?_;simp only[DataW.weights,und_Objs];refine List.mem_cons_of_mem _ (List.mem_append_left _ (wAll_memS ?_ k hk));exact List.mem_map.2 ⟨i,by simpa using hi,rfl⟩)
   exact⟨(x,cs'),hxv,fun j hj=>by rw[← add_add];exact hcell j hj⟩
  obtain⟨q,hq⟩:=choose_lt (α:=Ob×List Value) each;have h5:∀y∈(List.range len).map fun i=>(q i).2,y.length=5:=fun y hy=>by
   obtain⟨i,hi,rfl⟩:=List.mem_map.1 hy;exact(hq i (by simpa using hi)).1.1.len
  refine⟨(List.range len).map fun i=>(q i).1,?_⟩;have:=obs_mk (m:=W) (a:=some a) (cap:=m) (ys:=(List.range len).map fun i=>(q i).2) (l:=(List.range len).map fun i=>(q i).1) ⟨by simp,fun k hk=>by
   have hk:k<len:=by simpa using hk
   have e1:((List.range len).map fun i=>(q i).1)[k]?.getD default=(q k).1:=by simp[hk]
   have e2:((List.range len).map fun i=>(q i).2)[k]?.getD []=(q k).2:=by simp[hk]
   rw[e1,e2];exact(hq k hk).1.1⟩
   (cellsAt_of W a len 5 _ (by decide) (by rw[flat_len h5];simp) fun i hi j hj=>by
     rw[flat_at h5 i j (by simpa using hi) hj,(hq i hi).2 j hj];simp[hi])
   (by simpa using hl) (by unfold maxLen at hm;omega) (by
     have hw:(len+(m-len))*88≤reachBytes:=by
      have:=List.all_eq_true.1 hs ((len+(m-len))*88) (by simp[DataW.weights,und_Objs,bytes_Obj]);simpa using this
     have:=reachBytes_lt;simp;omega)
  refine⟨by simpa using this,fun k hk=> ?_⟩;have hk:k<len:=by simpa using hk
  have e1:((List.range len).map fun i=>(q i).1)[k]?.getD default=(q k).1:=by simp[hk]
  rw[e1];exact(hq k hk).1.2
theorem reads_lso {fuel:Nat}{v:Value}{y:DataW H×List MemPlace}(h:DataW.trod enc Tryz.prog W base (fun _=>true) held fuel 23 [v]=some y)
 (hs:(y.1.weights Tryz.prog 23).all (· ≤reachBytes)=true):∃ls,LsoR W v ls∧SmLs ls:=by
 rcases open_slice1 und_Lso cells_obS h with ⟨hcs,rfl⟩|⟨a,len,cap,m,n,V,D,Pl,hcs,_,hl,hm,hmm,rfl,hx⟩
 ·simp at hcs
  subst hcs;exact⟨[],LsoR.nil _,fun k hk=>by cases hk⟩
 ·simp at hcs
  subst hcs;simp only[if_true]at hmm;subst hmm;have each:∀i,i<len→∃l:List Ob,ObsR W (V i) l∧SmObs l:=by
   intro i hi;obtain⟨_,h2⟩:=hx i (by omega);refine reads_objs h2 ?_;rw[List.all_eq_true]at hs⊢;intro k hk;refine hs k ?_;simp only[DataW.weights,und_Lso];refine List.mem_cons_of_mem _ (List.mem_append_left _ (wAll_memS ?_ k hk));exact List.mem_map.2 ⟨i,by simpa using hi,rfl⟩
  obtain⟨q,hq⟩:=choose_lt (α:=List Ob) each;refine⟨(List.range len).map q,⟨some a,m,(List.range len).map V,by simp,by simpa using hl,by unfold maxLen at hm;omega,?_,?_,by simp,fun i hi=> ?_⟩,fun i hi=> ?_⟩
  ·have hw:(len+(m-len))*24≤reachBytes:=by
    have:=List.all_eq_true.1 hs ((len+(m-len))*24) (by simp[DataW.weights,und_Lso,bytes_obS]);simpa using this
   have:=reachBytes_lt;simp;omega
  ·refine cellsAt_of W a len 1 _ (by decide) (by simp) fun i hi j hj=> ?_
   obtain rfl:j=0:=by omega
   rw[Nat.mul_one,Nat.add_zero,(hx i (by omega)).1];simp[hi]
  ·have hi:i<len:=by simpa using hi
   have e1:((List.range len).map V)[i]?.getD undef=V i:=by simp[hi]
   have e2:((List.range len).map q)[i]?.getD []=q i:=by simp[hi]
   rw[e1,e2];exact(hq i hi).1
  ·have hi:i<len:=by simpa using hi
   have e2:((List.range len).map q)[i]?.getD []=q i:=by simp[hi]
   rw[e2];exact(hq i hi).2
theorem struct_ses:∃f0 f1 f2:Field,Tryz.prog.underlying 25=some (.struct #[f0,f1,f2])∧f0.type=22∧f1.type=23∧f2.type=23∧f0.offset=0∧f1.offset=1∧f2.offset=2:=
 ⟨_,_,_,Tryz.underlying25,rfl,rfl,rfl,rfl,rfl,rfl⟩
theorem cells_Ses:Tryz.prog.cellsOf 25=3:=by kernel_rfl
theorem arr3 {cs:Array Value}(h:cs.size=3):∃a b c,cs= #[a,b,c]:=by
 obtain⟨l⟩:=cs;obtain⟨a,b,c,rfl⟩:=list3 (l:=l) (by simpa using h);exact⟨a,b,c,rfl⟩
theorem list8 {α:Type}{l:List α}(h:l.length=8):∃a b c d e f g i,l=[a,b,c,d,e,f,g,i]:=by
 match l,h with
 |[a,b,c,d,e,f,g,i],_=>exact⟨a,b,c,d,e,f,g,i,rfl⟩
theorem list7 {α:Type}{l:List α}(h:l.length=7):∃a b c d e f g,l=[a,b,c,d,e,f,g]:=by
 match l,h with
 |[a,b,c,d,e,f,g],_=>exact⟨a,b,c,d,e,f,g,rfl⟩
theorem arr8 {cs:Array Value}(h:cs.size=8):∃a b c d e f g i,cs= #[a,b,c,d,e,f,g,i]:=by
 obtain⟨l⟩:=cs;obtain⟨a,b,c,d,e,f,g,i,rfl⟩:=list8 (l:=l) (by simpa using h);exact⟨a,b,c,d,e,f,g,i,rfl⟩
theorem reads_ses {r:Reach}{b0:Nat}{v:Value}{d:DataW H}{p:List MemPlace}(hv:Value.okWide Tryz.prog W r b0 25 v)(h:DataW.Trod enc Tryz.prog W base (fun _=>true) held 25 v d p)
 (hs:(d.weights Tryz.prog 25).all (· ≤reachBytes)=true):∃s:Ses,SesR W v s∧SmSes s:=by
 obtain⟨f0,f1,f2,hu,t0,t1,t2,o0,o1,o2⟩:=struct_ses;obtain⟨cs,rfl,hsz⟩:=okWide_struct hu hv;obtain⟨c0,c1,c2,rfl⟩:=arr3 (hsz.trans cells_Ses);obtain⟨fuel,hf⟩:=h;obtain⟨y0,y1,y2,n,hx,_,h0,h1,h2⟩:=trod_struct3 hu hf;rw[t0,o0,cells_obS]at h0;rw[t1,o1,cells_loS]at h1;rw[t2,o2,cells_loS]at h2;have h0:DataW.trod enc Tryz.prog W base (fun _=>true) held n 22 [c0]=some y0:=h0;have h1:DataW.trod enc Tryz.prog W base (fun _=>true) held n 23 [c1]=some y1:=h1;have h2:DataW.trod enc Tryz.prog W base (fun _=>true) held n 23 [c2]=some y2:=h2;simp only[Prod.mk.injEq]at hx;obtain⟨rfl,rfl⟩:=hx;have hw:∀k,k∈y0.1.weights Tryz.prog 22∨k∈y1.1.weights Tryz.prog 23∨k∈y2.1.weights Tryz.prog 23→decide (k≤reachBytes)=true:=fun k hk=>by
  refine List.all_eq_true.1 hs k ?_;simp only[DataW.weights,hu,xA,xB,DataW.weightsEach,t0,t1,t2,List.mem_append];rcases hk with hk|hk|hk
  ·exact .inl hk
  ·exact .inr (.inl hk)
  ·exact .inr (.inr (.inl hk))
 obtain⟨l,hl,ml⟩:=reads_objs h0 (List.all_eq_true.2 fun k hk=>hw k (.inl hk));obtain⟨ps,hp,mp⟩:=reads_lso h1 (List.all_eq_true.2 fun k hk=>hw k (.inr (.inl hk)));obtain⟨fs,hf,mf⟩:=reads_lso h2 (List.all_eq_true.2 fun k hk=>hw k (.inr (.inr hk)));exact⟨⟨l,ps,fs⟩,⟨c0,c1,c2,rfl,hl,hp,hf⟩,ml,mp,mf⟩
theorem struct_cmd:∃f0 f1 f2 f3 f4 f5 f6:Field,Tryz.prog.underlying 31=some (.struct #[f0,f1,f2,f3,f4,f5,f6])∧f0.type=3∧f1.type=9∧f2.type=9∧f3.type=9∧f4.type=3∧f5.type=28∧f6.type=29∧
 f0.offset=0∧f1.offset=1∧f2.offset=2∧f3.offset=3∧f4.offset=4∧f5.offset=5∧f6.offset=7:=
 ⟨_,_,_,_,_,_,_,Tryz.underlying31,rfl,rfl,rfl,rfl,rfl,rfl,rfl,rfl,rfl,rfl,rfl,rfl,rfl,rfl⟩
theorem reads_cmdV {fuel:Nat}{cs:List Value}{y:DataW H×List MemPlace}(h:DataW.trod enc Tryz.prog W base (fun _=>true) held fuel 31 cs=some y)
 (hs:(y.1.weights Tryz.prog 31).all (· ≤reachBytes)=true):∃c:Cmd,CmV W c cs∧SmCmd c:=by
 obtain⟨f0,f1,f2,f3,f4,f5,f6,hu,t0,t1,t2,t3,t4,t5,t6,o0,o1,o2,o3,o4,o5,o6⟩:=struct_cmd;obtain⟨xs,n,_,hy,hlen,hxl,hf⟩:=DataW.trod_struct hu h;rw[cells_Cmd]at hlen;obtain⟨y0,y1,y2,y3,y4,y5,y6,rfl⟩:=list7 hxl;obtain⟨v0,v1,v2,v3,v4,v5,v6,v7,rfl⟩:=list8 hlen;have g0:=hf 0 f0 rfl;have g1:=hf 1 f1 rfl;have g2:=hf 2 f2 rfl;have g3:=hf 3 f3 rfl;have g4:=hf 4 f4 rfl;have g5:=hf 5 f5 rfl;have g6:=hf 6 f6 rfl;rw[t0,o0,cells_int]at g0;rw[t1,o1,cells_str]at g1;rw[t2,o2,cells_str]at g2;rw[t3,o3,cells_str]at g3;rw[t4,o4,cells_int]at g4;rw[t5,o5,cells_gr]at g5;rw[t6,o6,cells_inS]at g6;have g0:DataW.trod enc Tryz.prog W base (fun _=>true) held n 3 [v0]=some y0:=g0
 have g1:DataW.trod enc Tryz.prog W base (fun _=>true) held n 9 [v1]=some y1:=g1;have g2:DataW.trod enc Tryz.prog W base (fun _=>true) held n 9 [v2]=some y2:=g2;have g3:DataW.trod enc Tryz.prog W base (fun _=>true) held n 9 [v3]=some y3:=g3;have g4:DataW.trod enc Tryz.prog W base (fun _=>true) held n 3 [v4]=some y4:=g4;have g5:DataW.trod enc Tryz.prog W base (fun _=>true) held n 28 [v5,v6]=some y5:=g5;have g6:DataW.trod enc Tryz.prog W base (fun _=>true) held n 29 [v7]=some y6:=g6;obtain⟨k0,e0,_⟩:=DataW.trod_int und_int g0;obtain⟨s1,e1,x1,_⟩:=DataW.trod_string und_strR g1;obtain⟨s2,e2,x2,_⟩:=DataW.trod_string und_strR g2
 obtain⟨s3,e3,x3,_⟩:=DataW.trod_string und_strR g3;obtain⟨k4,e4,_⟩:=DataW.trod_int und_int g4;simp at e0 e1 e2 e3 e4;subst e0 e1 e2 e3 e4 hy x1 x2 x3;have hn:∀s:ByteArray,s=s1∨s=s2∨s=s3→s.data.toList.length≤140737488355328:=fun s hh=>by
  have:=List.all_eq_true.1 hs s.data.toList.length (by
   simp only[DataW.weights,hu,xA,xB,DataW.weightsEach,t0,t1,t2,t3,t4,t5,t6,List.mem_append];rcases hh with rfl|rfl|rfl
   ·exact .inr (.inl (by simp))
   ·exact .inr (.inr (.inl (by simp)))
   ·exact .inr (.inr (.inr (.inl (by simp)))))
  have h2:=reachBytes_lt;have h3:s.data.toList.length≤reachBytes:=by simpa using this
  omega
 have hw:∀k,k∈y5.1.weights Tryz.prog 28∨k∈y6.1.weights Tryz.prog 29→decide (k≤reachBytes)=true:=fun k hk=>by
  refine List.all_eq_true.1 hs k ?_;simp only[DataW.weights,hu,xA,xB,DataW.weightsEach,t0,t1,t2,t3,t4,t5,t6,List.mem_append];rcases hk with hk|hk
  ·exact .inr (.inr (.inr (.inr (.inr (.inl hk)))))
  ·exact .inr (.inr (.inr (.inr (.inr (.inr (.inl hk))))))
 obtain⟨g,rfl,hes⟩:=reads_gr g5 (List.all_eq_true.2 fun k hk=>hw k (.inl hk));obtain⟨l,hl⟩:=reads_ints und_Ints g6 (List.all_eq_true.2 fun k hk=>hw k (.inr hk));exact⟨⟨k0,s1.data.toList,s2.data.toList,s3.data.toList,k4,g,l⟩,⟨_,_,rfl,hes,hl⟩,hn _ (.inl rfl),hn _ (.inr (.inl rfl)),hn _ (.inr (.inr rfl))⟩
theorem reads_cmd {r:Reach}{b0:Nat}{v:Value}{d:DataW H}{p:List MemPlace}(hv:Value.okWide Tryz.prog W r b0 31 v)(h:DataW.Trod enc Tryz.prog W base (fun _=>true) held 31 v d p)
 (hs:(d.weights Tryz.prog 31).all (· ≤reachBytes)=true):∃c:Cmd,CmdR W v c∧SmCmd c:=by
 obtain⟨f0,f1,f2,f3,f4,f5,f6,hu,_⟩:=struct_cmd;obtain⟨cs,rfl,hsz⟩:=okWide_struct hu hv;obtain⟨fuel,hf⟩:=h;obtain⟨c,⟨ev,vv,e,h1,h2⟩,hm⟩:=reads_cmdV hf hs;refine⟨c,⟨ev,vv,?_,h1,h2⟩,hm⟩;obtain⟨l⟩:=cs;have e':l=_:=e;subst e';rfl
theorem reads_cmds {fuel:Nat}{v:Value}{y:DataW H×List MemPlace}(h:DataW.trod enc Tryz.prog W base (fun _=>true) held fuel 78 [v]=some y)
 (hs:(y.1.weights Tryz.prog 78).all (· ≤reachBytes)=true):∃l,CmsR W v l∧∀k,k<l.length→SmCmd (l[k]?.getD default):=by
 rcases open_slice und_Cmds h with ⟨hcs,rfl⟩|⟨a,len,cap,m,n,D,Pl,hcs,_,hl,hm,hmm,rfl,hx⟩
 ·simp at hcs
  subst hcs;exact⟨[],CmsR.nil _,fun k hk=>by cases hk⟩
 ·simp at hcs
  subst hcs;simp only[if_true]at hmm;subst hmm;have each:∀i,i<len→∃x:Cmd×List Value,(CmV W x.1 x.2∧SmCmd x.1)∧∀j,j<8→W.cell? (a.add (i*8+j))=x.2[j]? :=by
   intro i hi;obtain⟨cs',h1,h2⟩:=hx i (by omega);rw[cells_Cmd]at h1;obtain⟨_,hlen,hcell⟩:=World.cells?_some h1;obtain⟨x,hxv⟩:=reads_cmdV h2 (by
    rw[List.all_eq_true]at hs⊢;intro k hk;refine hs k ?_;simp only[DataW.weights,und_Cmds];refine List.mem_cons_of_mem _ (List.mem_append_left _ (wAll_memS ?_ k hk));exact List.mem_map.2 ⟨i,by simpa using hi,rfl⟩)
   exact⟨(x,cs'),hxv,fun j hj=>by rw[← add_add];exact hcell j hj⟩
  obtain⟨q,hq⟩:=choose_lt (α:=Cmd×List Value) each;have h8:∀y∈(List.range len).map fun i=>(q i).2,y.length=8:=fun y hy=>by
   obtain⟨i,hi,rfl⟩:=List.mem_map.1 hy;obtain⟨ev,vv,e,_⟩:=(hq i (by simpa using hi)).1.1;rw[e];rfl
  refine⟨(List.range len).map fun i=>(q i).1,⟨some a,m,((List.range len).map fun i=>(q i).2).flatten,by simp,by simpa using hl,by unfold maxLen at hm;omega,?_,?_,by rw[flat_len h8];simp,fun k hk=> ?_⟩,fun k hk=> ?_⟩
  ·have hw:(len+(m-len))*120≤reachBytes:=by
    have:=List.all_eq_true.1 hs ((len+(m-len))*120) (by simp[DataW.weights,und_Cmds,bytes_Cmd]);simpa using this
   have:=reachBytes_lt;simp;omega
  ·refine cellsAt_of W a len 8 _ (by decide) (by rw[flat_len h8];simp) fun i hi j hj=> ?_
   rw[flat_at h8 i j (by simpa using hi) hj,(hq i hi).2 j hj];simp[hi]
  ·have hk:k<len:=by simpa using hk
   have e1:((List.range len).map fun i=>(q i).1)[k]?.getD default=(q k).1:=by simp[hk]
   have e3:(((List.range len).map fun i=>(q i).2).flatten.drop (k*8)).take 8=(q k).2:=by
    obtain⟨ev,vv,e,_⟩:=(hq k hk).1.1;have hl8:(q k).2.length=8:=by rw[e];rfl
    apply List.ext_getElem?;intro j;by_cases hj:j<8
    ·rw[List.getElem?_take_of_lt hj,List.getElem?_drop,flat_at h8 k j (by simpa using hk) hj]
     simp[hk]
    ·rw[List.getElem?_eq_none (by rw[List.length_take];omega),List.getElem?_eq_none (by omega)]
   rw[e1,e3];exact(hq k hk).1.1
  ·have hk:k<len:=by simpa using hk
   have e1:((List.range len).map fun i=>(q i).1)[k]?.getD default=(q k).1:=by simp[hk]
   rw[e1];exact(hq k hk).1.2
end
end Go.Proofs.YtclgllmipcbagaaGreatDoor
namespace Go.Proofs.YtclgllmipcbagaaGreatDoor
open Go.RowKit Go.ChangeShapes
set_option linter.unusedVariables false
set_option linter.unusedSimpArgs false
set_option maxRecDepth 100000
set_option maxHeartbeats 16000000
theorem err_star: "*" ++ "errors.errorString" = "*errors.errorString" :=by decide
theorem err_row (u:TypeId)(h:Tryz.prog.typeName? 3 u=some "*errors.errorString"):u=439:=
 typeName_ptr_named (nm:= "errors.errorString") (by rw[err_star];kernel_rfl) (by kernel_rfl) (by decide) u (by rw[err_star];exact h)
theorem err_struct:∃f:Field,Tryz.prog.underlying 441=some (.struct #[f])∧f.type=9∧f.offset=0:=
 ⟨_,Tryz.underlying441,rfl,rfl⟩
theorem err_iface:∃ms,Tryz.prog.underlying 135=some (.interface ms):=⟨_,Tryz.underlying135⟩
theorem max_some {W:World}(h:W.ShapedOpen Tryz.prog):∃m,W.cell? ⟨1,0,none⟩=some (.int .i64 m):=
 cell_of_shapedOpen_int (t:=3) (zero:= #[.int .i64 0]) h (of_decide_eq_true (by kernel_rfl)) (by kernel_rfl) rfl (by kernel_rfl) (by kernel_rfl) (by kernel_rfl)
theorem env_ofC {W:World}(h:laidMetH Tryz.prog Rows.sessionChecksRow.laid W)(hs:W.ShapedOpen Tryz.prog):EnvS W:=by
 rw[MakeChecks.laidMetH_plain _ _ _ (by kernel_rfl)]at h;have h2:=h.tail.tail;have h4:=h2.tail.tail;have h5:=h4.tail;obtain⟨f,hf1,hf2,hf3⟩:=err_struct;obtain⟨ms,hms⟩:=err_iface;refine⟨⟨?_,?_⟩,?_,max_some hs⟩
 ·obtain⟨a,s,h6,_,_,_⟩:=laid_sentinel (P:=Tryz.prog) (W:=W) (n:= "strconv.ErrRange") (nm:= "*errors.errorString") (g:=3) (ti:=135) (tp:=439) (te:=441) (ts:=9) h4 (by kernel_rfl) (by kernel_rfl) hms
   err_row (by kernel_rfl) hf1 hf2 hf3 (by kernel_rfl) (by kernel_rfl) (by kernel_rfl)
  exact⟨_,by simpa using World.var?_cell (show Tryz.prog.globalNamed "strconv.ErrRange" =some 3 by kernel_rfl) h6 0,.inr ⟨_,_,rfl⟩⟩
 ·exact Lib.tabIs_of_head (g:=0) (t:=377) (e:=315) (n:=20) (by kernel_rfl) (by kernel_rfl) (by kernel_rfl) (by kernel_rfl) (by kernel_rfl) (by kernel_rfl) h2
 ·obtain⟨a,s,h6,_,_,_⟩:=laid_sentinel (P:=Tryz.prog) (W:=W) (n:= "strconv.ErrSyntax") (nm:= "*errors.errorString") (g:=2) (ti:=135) (tp:=439) (te:=441) (ts:=9) h5 (by kernel_rfl) (by kernel_rfl) hms
   err_row (by kernel_rfl) hf1 hf2 hf3 (by kernel_rfl) (by kernel_rfl) (by kernel_rfl)
  exact⟨_,by simpa using World.var?_cell (show Tryz.prog.globalNamed "strconv.ErrSyntax" =some 2 by kernel_rfl) h6 0,.inr ⟨_,_,rfl⟩⟩
theorem und_string:Tryz.prog.underlying 9=some .string:=by kernel_rfl
theorem handed_and_shaped {H:Type}{enc:TypeId×Value→H}{a:Assume}{C:Checked}{os:Os}{f:FuncId}{fn:Func}{s:ChangeSpec}{conds:List PathCond}{apart fresh handsOn again:Bool}{X:World→Array Value→Prop}
 (hX:∀(w w':World) (args:Array Value),w.heap=w'.heap→X w args→X w' args)
 (own:ownKnob C.prog.godebug=none) (started:os.Started) (noInit:C.prog.inits.idxOf? f=none) (hfn:C.prog.funcs[f]? =some fn)
 (witness:∃(w:World) (tape:Tape) (i:Input),w.os=os∧(w.forCall tape i).Shaped C.prog∧i.vars=[]∧Input.okWide C.prog (w.forCall tape i) .any w.heap.size f i∧
   ((s.pre enc C.prog fn conds apart (w.forCall tape i).memory i.args∧X (w.forCall tape i).memory i.args)∧sizedMet enc C.prog fn (OpenSpec.ofChange s) apart (w.forCall tape i).memory i.args)∧a.holds C.prog (lone (Frame.enter C.prog f i.args .normal) [] (w.forCall tape i)))
 (contract:∀(W:World) (base:Nat) (args:Array Value) (ds gs:List (DataW H)) (before:List MemPlace),
   (∀ (j:Nat) t v,fn.params[j]? =some t→args[j]? =some v→Value.okWide C.prog W .any base t v)→
   DataW.Whole enc C.prog fn.params.toList s.vars apart W args.toList ds gs before→
   conds.all (PathCond.test C.prog ⟨fn.params.toList,ds,s.plain.varTypes C.prog,gs⟩)=true→
   (DataW.weightsEach C.prog (fn.params.toList++s.plain.varTypes C.prog) (ds++gs)).all (· ≤reachBytes)=true→X W args→
   W.ShapedOpen C.prog→
   a.holds C.prog (lone (Frame.enter C.prog f args .normal) [] W)→
   Calls C.prog f args W fun e W'=>∃v,e= .returned v∧s.post enc C.prog fn apart fresh handsOn again W args v W'):
 ReturnsInHanded a C os f .any (fun w args=>(s.pre enc C.prog fn conds apart w args∧X w args)∧sizedMet enc C.prog fn (OpenSpec.ofChange s) apart w args) (s.post enc C.prog fn apart fresh handsOn again):=by
 refine returnsInHanded_of_calls own started noInit witness ?_;intro w tape i _ hsh _ hok hpre hholds;obtain⟨_,_,_,fn',hfn',_,_,_,_,hval⟩:=hok;have e:fn'=fn:=Option.some.inj (hfn'.symm.trans hfn);subst e;obtain⟨⟨⟨ds,gs,before,hw,hc⟩,hx⟩,hz⟩:=hpre;have hw':=DataW.Whole.of_heap (w':=w.forCall tape i) (by rfl) hw;refine(contract (w.forCall tape i) w.heap.size i.args ds gs before hval hw' hc (hz.weights hw) (hX _ _ _ (by rfl) hx) hsh hholds).mono fun e W' ⟨v,he,hp⟩=> ?_;subst he;exact ChangeSpec.post_blind hp
end Go.Proofs.YtclgllmipcbagaaGreatDoor
