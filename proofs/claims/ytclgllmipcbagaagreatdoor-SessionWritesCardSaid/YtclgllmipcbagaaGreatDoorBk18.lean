/-
  Parts of the proof: XSr XSs XSu
-/
import Derived.Deep.WholeRow
import Derived.Test.YtclgllmipcbagaaGreatDoorBk16
import Derived.Test.YtclgllmipcbagaaGreatDoorBk17
namespace Go.Proofs.YtclgllmipcbagaaGreatDoor
open Go.RowKit
set_option linter.unusedVariables false
set_option linter.unusedSimpArgs false
set_option maxRecDepth 100000
set_option maxHeartbeats 16000000
theorem wpList_storeS {P:Program}(w:World){ops:Array Oper}{rest:List Oper}{o:Oper}{a:Act}{Q:Exit→Act→World→Prop}
 (hg:o.guard=none) (p x:Operand) (t:TypeId) (hop:o.op=Op.store t p x) (pv:Value) (hp:a.eval p=pv) (v:Value) (hx:a.eval x=v) (w':World) (hl:(Instr.storeAt t pv v).run P w= .ok () w')
 (hK:wpList P ops Q rest (a.put o.dst undef) w'):wpList P ops Q (o::rest) a w:=by
 refine wpList_plain hg fun K' hK'=> ?_;unfold Oper.wp;simp[execOp,hop,hp,hx,hl,Result.andThen];exact hK' _ _ hK
theorem wpList_buildS {P:Program}{ops:Array Oper}{rest:List Oper}{o:Oper}{a:Act}{w:World}{Q:Exit→Act→World→Prop}(hg:o.guard=none)(t:TypeId)(parts:Array (Nat×Operand))(ho:o.op= .build t parts)
 (vs:List (Nat×Value)) (hv:(parts.toList.map fun p=>(p.1,a.eval p.2))=vs) (cells:Array Value) (hb:P.built t vs=some cells)
 (h:wpList P ops Q rest (a.put o.dst (.agg cells)) w):wpList P ops Q (o::rest) a w:=
 have e:(parts.map fun(i,x)=>(i,a.eval x)).toList=vs:=by rw[← hv];simp
 wpList_build hg t parts ho (by rw[e,hb];rfl) (by rw[e,hb];exact h)
def vbC0:Array Value:= #[.string {data:= #[108,101,116]},.bool true,.bool false,.bool false,.bool false,.bool false,.func (.func 93) #[] #[]]
theorem built_v0:Tryz.prog.built 110 [(0,.string {data:= #[108,101,116]}),(1,.bool true),(6,.func (.func 93) #[] #[])]=some vbC0:=by kernel_rfl
def vbC1:Array Value:= #[.string {data:= #[112,117,116]},.bool true,.bool true,.bool false,.bool false,.bool true,.func (.func 94) #[] #[]]
theorem built_v1:Tryz.prog.built 110 [(0,.string {data:= #[112,117,116]}),(1,.bool true),(2,.bool true),(5,.bool true),(6,.func (.func 94) #[] #[])]=some vbC1:=by kernel_rfl
def vbC2:Array Value:= #[.string {data:= #[102,105,114,101]},.bool true,.bool false,.bool false,.bool false,.bool true,.func (.func 95) #[] #[]]
theorem built_v2:Tryz.prog.built 110 [(0,.string {data:= #[102,105,114,101]}),(1,.bool true),(5,.bool true),(6,.func (.func 95) #[] #[])]=some vbC2:=by kernel_rfl
def vbC3:Array Value:= #[.string {data:= #[115,116,97,98,105,108,105,122,101]},.bool true,.bool false,.bool false,.bool true,.bool false,.func (.func 95) #[] #[]]
theorem built_v3:Tryz.prog.built 110 [(0,.string {data:= #[115,116,97,98,105,108,105,122,101]}),(1,.bool true),(4,.bool true),(6,.func (.func 95) #[] #[])]=some vbC3:=by kernel_rfl
def vbC4:Array Value:= #[.string {data:= #[114,101,100,117,99,101]},.bool true,.bool false,.bool false,.bool true,.bool false,.func (.func 95) #[] #[]]
theorem built_v4:Tryz.prog.built 110 [(0,.string {data:= #[114,101,100,117,99,101]}),(1,.bool true),(4,.bool true),(6,.func (.func 95) #[] #[])]=some vbC4:=by kernel_rfl
def vbC5:Array Value:= #[.string {data:= #[97,100,100]},.bool true,.bool true,.bool true,.bool false,.bool false,.func (.func 96) #[] #[]]
theorem built_v5:Tryz.prog.built 110 [(0,.string {data:= #[97,100,100]}),(1,.bool true),(2,.bool true),(3,.bool true),(6,.func (.func 96) #[] #[])]=some vbC5:=by kernel_rfl
def vbC6:Array Value:= #[.string {data:= #[100,114,111,112]},.bool true,.bool false,.bool false,.bool false,.bool false,.func (.func 97) #[] #[]]
theorem built_v6:Tryz.prog.built 110 [(0,.string {data:= #[100,114,111,112]}),(1,.bool true),(6,.func (.func 97) #[] #[])]=some vbC6:=by kernel_rfl
def vbC7:Array Value:= #[.string {data:= #[117,110,100,111]},.bool false,.bool false,.bool false,.bool false,.bool false,.func (.func 98) #[] #[]]
theorem built_v7:Tryz.prog.built 110 [(0,.string {data:= #[117,110,100,111]}),(6,.func (.func 98) #[] #[])]=some vbC7:=by kernel_rfl
def vbC8:Array Value:= #[.string {data:= #[114,101,100,111]},.bool false,.bool false,.bool false,.bool false,.bool false,.func (.func 99) #[] #[]]
theorem built_v8:Tryz.prog.built 110 [(0,.string {data:= #[114,101,100,111]}),(6,.func (.func 99) #[] #[])]=some vbC8:=by kernel_rfl
def verbsC:Array Value:= #[.string {data:= #[108,101,116]},.bool true,.bool false,.bool false,.bool false,.bool false,.func (.func 93) #[] #[],.string {data:= #[112,117,116]},.bool true,.bool true,.bool false,.bool false,.bool true,.func (.func 94) #[] #[],.string {data:= #[102,105,114,101]},.bool true,.bool false,.bool false,.bool false,.bool true,.func (.func 95) #[] #[],.string {data:= #[115,116,97,98,105,108,105,122,101]},.bool true,.bool false,.bool false,.bool true,.bool false,.func (.func 95) #[] #[],.string {data:= #[114,101,100,117,99,101]},.bool true,.bool false,.bool false,.bool true,.bool false,.func (.func 95) #[] #[],.string {data:= #[97,100,100]},.bool true,.bool true,.bool true,.bool false,.bool false,.func (.func 96) #[] #[],.string {data:= #[100,114,111,112]},.bool true,.bool false,.bool false,.bool false,.bool false,.func (.func 97) #[] #[],.string {data:= #[117,110,100,111]},.bool false,.bool false,.bool false,.bool false,.bool false,.func (.func 98) #[] #[],.string {data:= #[114,101,100,111]},.bool false,.bool false,.bool false,.bool false,.bool false,.func (.func 99) #[] #[]]
def verbsV:Value:= .agg verbsC
theorem built_vs:Tryz.prog.built 111 [(0,.agg vbC0),(1,.agg vbC1),(2,.agg vbC2),(3,.agg vbC3),(4,.agg vbC4),(5,.agg vbC5),(6,.agg vbC6),(7,.agg vbC7),(8,.agg vbC8)]=some verbsC:=by kernel_rfl
theorem size_verbs:(Tryz.prog.info? 111).map (·.size)=some 63:=by kernel_rfl
theorem und_verbs:Tryz.prog.underlying 111=some (.array 9 110):=by kernel_rfl
theorem one_verbs:verbsC.all (·.oneCell')=true:=by kernel_rfl
theorem s_verbs (w:World):Calls Tryz.prog 54 #[] w fun e w'=>e= .returned verbsV∧Below w.heap.size w w':=by
 go_enter Tryz.func54,Tryz.ntmps54;go_upto_region 1 with fail;refine wp_region_lit ?_;refine wpList_buildS rfl 110 _ rfl [(0,.string {data:= #[108,101,116]}),(1,.bool true),(6,.func (.func 93) #[] #[])] rfl vbC0 built_v0 ?_;dsimp only;simp only[Act.put,xM,xJ,xK];refine wpList_buildS rfl 110 _ rfl [(0,.string {data:= #[112,117,116]}),(1,.bool true),(2,.bool true),(5,.bool true),(6,.func (.func 94) #[] #[])] rfl vbC1 built_v1 ?_;dsimp only;simp only[Act.put,xM,xJ,xK];refine wpList_buildS rfl 110 _ rfl [(0,.string {data:= #[102,105,114,101]}),(1,.bool true),(5,.bool true),(6,.func (.func 95) #[] #[])] rfl vbC2 built_v2 ?_
 dsimp only;simp only[Act.put,xM,xJ,xK];refine wpList_buildS rfl 110 _ rfl [(0,.string {data:= #[115,116,97,98,105,108,105,122,101]}),(1,.bool true),(4,.bool true),(6,.func (.func 95) #[] #[])] rfl vbC3 built_v3 ?_;dsimp only;simp only[Act.put,xM,xJ,xK];refine wpList_buildS rfl 110 _ rfl [(0,.string {data:= #[114,101,100,117,99,101]}),(1,.bool true),(4,.bool true),(6,.func (.func 95) #[] #[])] rfl vbC4 built_v4 ?_;dsimp only;simp only[Act.put,xM,xJ,xK];refine wpList_buildS rfl 110 _ rfl [(0,.string {data:= #[97,100,100]}),(1,.bool true),(2,.bool true),(3,.bool true),(6,.func (.func 96) #[] #[])] rfl vbC5 built_v5 ?_
 dsimp only;simp only[Act.put,xM,xJ,xK];refine wpList_buildS rfl 110 _ rfl [(0,.string {data:= #[100,114,111,112]}),(1,.bool true),(6,.func (.func 97) #[] #[])] rfl vbC6 built_v6 ?_;dsimp only;simp only[Act.put,xM,xJ,xK];refine wpList_buildS rfl 110 _ rfl [(0,.string {data:= #[117,110,100,111]}),(6,.func (.func 98) #[] #[])] rfl vbC7 built_v7 ?_;dsimp only;simp only[Act.put,xM,xJ,xK];refine wpList_buildS rfl 110 _ rfl [(0,.string {data:= #[114,101,100,111]}),(6,.func (.func 99) #[] #[])] rfl vbC8 built_v8 ?_;dsimp only;simp only[Act.put,xM,xJ,xK];refine wpList_buildS rfl 111 _ rfl [(0,.agg vbC0),(1,.agg vbC1),(2,.agg vbC2),(3,.agg vbC3),(4,.agg vbC4),(5,.agg vbC5),(6,.agg vbC6),(7,.agg vbC7),(8,.agg vbC8)] rfl verbsC built_vs ?_
 dsimp only;simp only[Act.put,xM,xJ,xK];refine wpList_storeS _ rfl _ _ 111 rfl (.pointer (some ⟨w.heap.size,0,none⟩)) rfl (.agg verbsC) rfl _ (run_storeAt_new w 111 _ verbsC size_verbs rfl one_verbs) ?_;generalize hWW:w.alloc (.cells verbsC 111)=W1;have HWW:=hid hWW;clear hWW;go_wp2_with fail;refine bodyPost_ret (results_cell1' rfl rfl (by rw[← HWW.out];exact run_loadVar_new w 111 verbsC 9 _ und_verbs size_verbs)) rfl ?_;exact⟨rfl,by rw[← HWW.out];go_grown⟩
def SmCmd (c:Cmd):Prop:=c.name.length≤140737488355328∧c.on.length≤140737488355328∧c.other.length≤140737488355328
def wU (nm on ot:Bool)(k:Nat):Bool:=if k=0 then nm else if k=1 then on else ot
def wT (c:Cmd)(k:Nat):List UInt8:=if k=0 then c.name else if k=1 then c.on else c.other
def wE (nm on ot:Bool)(c:Cmd)(k:Nat):Int:=if wU nm on ot k=true then wordErr (wT c k)else 0
def wordsV (nm on ot:Bool)(c:Cmd):Int:=fstE (wE nm on ot c) 0 3
theorem wordsV_eq (c:Cmd):wordsV (kName c.kind) (kOn c.kind) (kOther c.kind) c=wordsErr c:=by
 unfold wordsV wordsErr;simp only[fstE,wE,wU,wT];cases kName c.kind<;>cases kOn c.kind<;>cases kOther c.kind<;>simp<;>(repeat' split)<;>first|rfl|omega|simp_all
theorem s_words (nm on ot at' vl:Bool)(sb:ByteArray)(fn:Fn)(c:Cmd)(cv:Value)(w:World)(hc:CmdR w cv c)(hm:SmCmd c):
 Calls Tryz.prog 56 #[.agg #[.string sb,.bool nm,.bool on,.bool ot,.bool at',.bool vl,.func fn #[] #[]],cv] w fun e w'=>e= .returned (.int .i64 (wordsV nm on ot c))∧Below w.heap.size w w':=by
 obtain⟨ev,vv,rfl,he,hv⟩:=hc;obtain⟨ea,ec,rfl,_⟩:=he;obtain⟨va,vc,rfl,_⟩:=hv;have HT:Hid (∀ k,k<3→(#[Value.bool nm,.string (str c.name),.bool on,.string (str c.on),.bool ot,.string (str c.other)]:Array Value)[k*2]? =some (.bool (wU nm on ot k))∧(#[Value.bool nm,.string (str c.name),.bool on,.string (str c.on),.bool ot,.string (str c.other)]:Array Value)[k*2+1]? =some (.string (str (wT c k)))∧(wT c k).length≤140737488355328):=by
  intro k hk;match k,hk with
  |0,_=>exact⟨rfl,rfl,hm.1⟩
  |1,_=>exact⟨rfl,rfl,hm.2.1⟩
  |2,_=>exact⟨rfl,rfl,hm.2.2⟩
 have HZ:Hid (fstE (wE nm on ot c) 0 3=wordsV nm on ot c):=rfl;generalize wordsV nm on ot c=z at*
 clear hm;have hB:Below w.heap.size w (((w.alloc (.cells #[.string sb,.bool nm,.bool on,.bool ot,.bool at',.bool vl,.func fn #[] #[]] 110)).alloc (.cells #[.int .i64 c.kind,.string (str c.name),.string (str c.on),.string (str c.other),.int .i64 c.q,.int .i64 c.g.n,.slice ea c.g.es.length ec,.slice va c.vals.length vc] 31)).alloc (.cells #[.bool nm,.string (str c.name),.bool on,.string (str c.on),.bool ot,.string (str c.other)] 157)):=by go_grown
 have HB0:=hid hB;have hL:=Blk.new ((w.alloc (.cells #[.string sb,.bool nm,.bool on,.bool ot,.bool at',.bool vl,.func fn #[] #[]] 110)).alloc (.cells #[.int .i64 c.kind,.string (str c.name),.string (str c.on),.string (str c.other),.int .i64 c.q,.int .i64 c.g.n,.slice ea c.g.es.length ec,.slice va c.vals.length vc] 31)) #[.bool nm,.string (str c.name),.bool on,.string (str c.on),.bool ot,.string (str c.other)] 157;rw[World.size_alloc,World.size_alloc]at hL;have HL:=hid hL;clear hB hL;go_enter Tryz.func56,Tryz.ntmps56;go_upto_region 2 with fail;generalize ((w.alloc (.cells #[.string sb,.bool nm,.bool on,.bool ot,.bool at',.bool vl,.func fn #[] #[]] 110)).alloc (.cells #[.int .i64 c.kind,.string (str c.name),.string (str c.on),.string (str c.other),.int .i64 c.q,.int .i64 c.g.n,.slice ea c.g.es.length ec,.slice va c.vals.length vc] 31)).alloc (.cells #[.bool nm,.string (str c.name),.bool on,.string (str c.on),.bool ot,.string (str c.other)] 157)=W0 at*
 go_loopw [25] (fun i wr=>∃k:Nat,k≤3∧i= .int .i64 k∧Hid (fstE (wE nm on ot c) k (3-k)=z)∧Hid (Below W0.heap.size W0 wr)) (fun i _=>3-(intOf i).toNat);case atStart=>exact⟨0,by omega,rfl,HZ,Below.refl _ _⟩
 case round=>
  clear HZ;obtain⟨k,hk,rfl,HZ,HB⟩:=hrel;obtain⟨wo,rfl⟩:∃wo:World,wo=wr:=⟨_,rfl⟩;have hk0:(0:Int)≤(k:Int):=by omega
  by_cases hlt:k<3
  ·have hlt':(k:Int)<3:=by omega
   have wk:IntKind.i64.wrap ((k:Int)+1)=(k:Int)+1:=IntWalk.i64_in _ (by omega);obtain⟨t0,t1,t2⟩:=HT.out k hlt;have HLo:=hid (HL.out.below HB.out);have hlb:=HLo.out.lt;have c0:=(HLo.out.cell (k*2)).trans t0;have c1:=(HLo.out.cell (k*2+1)).trans t1;have HST:=hid (fstE_step (f:=wE nm on ot c) hlt);have HE:Hid (wE nm on ot c k=if wU nm on ot k=true then wordErr (wT c k)else 0):=rfl;have hs0:=HB.out.size;clear t0 t1 hlt;generalize wT c k=t at*
   generalize wU nm on ot k=u at*
   generalize hrest:fstE (wE nm on ot c) (k+1) (3-(k+1))=R at*
   have HR:=hid hrest;clear hrest;cases u with
   |false=>
    have he:wE nm on ot c k=0:=by rw[HE.out];rfl
    have HZ2:Hid (R=z):=by show _=_;have:=HZ.out;rw[HST.out,he,if_neg (by simp)]at this;exact this
    clear he
    go_wp2_with fail
    go_roundw
    case rel=>exact⟨k+1,by omega,by go_num,hid (by rw[HR.out];exact HZ2.out),hid (HB.out.alloc hs0 _)⟩
    case measure=>simp[intOf];omega
   |true=>
    have he:wE nm on ot c k=wordErr t:=by rw[HE.out];rfl
    have HW:=hid (fun W=>p_Word t W (by omega))
    generalize wordErr t=z1 at*
    by_cases hz1:z1=0
    case pos=>
     have hb:(z1 !=0)=false:=by simpa using hz1
     have HZ2:Hid (R=z):=by show _=_;have:=HZ.out;rw[HST.out,he,hz1,if_neg (by simp)]at this;exact this
     clear he hz1;go_wp2_with fail;refine(HW.out _).mono ?_;rintro e w1 ⟨rfl,hB1⟩;have HB1:Hid (Below W0.heap.size W0 w1):=up HB.out (up (by go_grown) hB1);clear hB1;dsimp only;go_wp2_with fail;go_roundw;case rel=>exact⟨k+1,by omega,by go_num,hid (by rw[HR.out];exact HZ2.out),HB1⟩
     case measure=>simp[intOf];omega
    case neg=>
     have hb:(z1 !=0)=true:=by simpa using hz1
     have HZ2:Hid (z1=z):=by show _=_;have:=HZ.out;rw[HST.out,he,if_pos hz1]at this;exact this
     clear he hz1;go_wp2_with fail;refine(HW.out _).mono ?_;rintro e w1 ⟨rfl,hB1⟩;have HB1:Hid (Below W0.heap.size W0 w1):=up HB.out (up (by go_grown) hB1);clear hB1;dsimp only;go_wp2_with fail;go_ret;exact⟨ret_int HZ2.out,up HB0.out HB1.out⟩
  ·obtain rfl:k=3:=by omega
   have hlt':¬((3:Nat):Int)<3:=by omega
   go_wp2_with fail;go_ret;exact⟨ret_int HZ.out,up HB0.out HB.out⟩
def numsV (at' vl:Bool)(c:Cmd):Int:=
 if (at'&&(decide (c.q<0)||decide (12≤c.q)))=true then 2
 else if (decide (c.kind=0)&&checkErr c.g !=0)=true then checkErr c.g
 else if vl=false then 0
 else if c.vals.length<1∨12<c.vals.length then 8 else dErr c.vals c.vals.length
theorem s_numbers (nm on ot at' vl:Bool)(sb:ByteArray)(fn:Fn)(c:Cmd)(cv:Value)(w:World)(hc:CmdR w cv c):
 Calls Tryz.prog 57 #[.agg #[.string sb,.bool nm,.bool on,.bool ot,.bool at',.bool vl,.func fn #[] #[]],cv] w fun e w'=>e= .returned (.int .i64 (numsV at' vl c))∧Below w.heap.size w w':=by
 obtain⟨ev,vv,rfl,he,hv⟩:=hc;obtain⟨ea,ec,rfl,_⟩:=id he;obtain⟨va,vc,rfl,hv1,hv2,hv3,_⟩:=id hv;have HG:=hid (fun W (h:Below w.heap.size w W)=>p_Check c.g (.agg #[.int .i64 c.g.n,.slice ea c.g.es.length ec]) W ⟨_,rfl,he.below h⟩);have HCH:=hid (fun W (h:Below w.heap.size w W)=>p_chips c.vals (.slice va c.vals.length vc) (c.vals.length:Int) W (hv.below h))
 have HZ:Hid (numsV at' vl c=if (at'&&(decide (c.q<0)||decide (12≤c.q)))=true then 2
  else if (decide (c.kind=0)&&checkErr c.g !=0)=true then checkErr c.g
  else if vl=false then 0
  else if c.vals.length<1∨12<c.vals.length then 8 else dErr c.vals c.vals.length):=rfl
 generalize numsV at' vl c=z at*
 clear he hv;have hB:Below w.heap.size w ((w.alloc (.cells #[.string sb,.bool nm,.bool on,.bool ot,.bool at',.bool vl,.func fn #[] #[]] 110)).alloc (.cells #[.int .i64 c.kind,.string (str c.name),.string (str c.on),.string (str c.other),.int .i64 c.q,.int .i64 c.g.n,.slice ea c.g.es.length ec,.slice va c.vals.length vc] 31)):=by go_grown
 have hX:=hid ((Blk.new w #[.string sb,.bool nm,.bool on,.bool ot,.bool at',.bool vl,.func fn #[] #[]] 110).alloc (.cells #[.int .i64 c.kind,.string (str c.name),.string (str c.on),.string (str c.other),.int .i64 c.q,.int .i64 c.g.n,.slice ea c.g.es.length ec,.slice va c.vals.length vc] 31));have hY:=Blk.new (w.alloc (.cells #[.string sb,.bool nm,.bool on,.bool ot,.bool at',.bool vl,.func fn #[] #[]] 110)) #[.int .i64 c.kind,.string (str c.name),.string (str c.on),.string (str c.other),.int .i64 c.q,.int .i64 c.g.n,.slice ea c.g.es.length ec,.slice va c.vals.length vc] 31;rw[World.size_alloc]at hY
 have HY:=hid hY;have HB0:=hid hB;clear hB hY;go_enter Tryz.func57,Tryz.ntmps57;go_upto_region 1 with fail;generalize (w.alloc (.cells #[.string sb,.bool nm,.bool on,.bool ot,.bool at',.bool vl,.func fn #[] #[]] 110)).alloc (.cells #[.int .i64 c.kind,.string (str c.name),.string (str c.on),.string (str c.other),.int .i64 c.q,.int .i64 c.g.n,.slice ea c.g.es.length ec,.slice va c.vals.length vc] 31)=W0 at*
 have lx:=hX.out.lt;have ly:=HY.out.lt;have x4:=hX.out.cell 4;have x5:=hX.out.cell 5;have y0:=HY.out.cell 0;have y4:=HY.out.cell 4;have y5:=HY.out.cell 5;have y6:=HY.out.cell 6;have y7:=HY.out.cell 7;simp only[xG,xH,xI]at x4 x5 y0 y4 y5 y6 y7;have key:∀(Q:Prop),(at'=true→decide (c.q<0)=true→z=2→Q)→(at'=true→decide (c.q<0)=false→decide (12≤c.q)=true→z=2→Q)→(at'=true→decide (c.q<0)=false→decide (12≤c.q)=false→(at'&&(decide (c.q<0)||decide (12≤c.q)))=false→Q)→(at'=false→(at'&&(decide (c.q<0)||decide (12≤c.q)))=false→Q)→Q:=by
  intro Q q1 q2 q3 q4;cases h1:at'
  ·exact q4 h1 (by rw[h1];rfl)
  ·cases h2:decide (c.q<0)
   ·cases h3:decide (12≤c.q)
    ·exact q3 h1 h2 h3 (by rw[h1,h2,h3];rfl)
    ·exact q2 h1 h2 h3 (by rw[HZ.out,h1,h2,h3];rfl)
   ·exact q1 h1 h2 (by rw[HZ.out,h1,h2];rfl)
 refine key _ ?_ ?_ ?_ ?_<;>clear key
 ·rintro rfl h2 rfl
  go_wp2_with fail;go_ret;exact⟨rfl,HB0.out⟩
 ·rintro rfl h2 h3 rfl
  go_wp2_with fail;go_ret;exact⟨rfl,HB0.out⟩
 ·rintro rfl h2 h3 hk0
  rw[hk0]at HZ
  have HZ1:Hid (z=if (decide (c.kind=0)&&checkErr c.g !=0)=true then checkErr c.g
   else if vl=false then 0
   else if c.vals.length<1∨12<c.vals.length then 8 else dErr c.vals c.vals.length):=by show _=_;have:=HZ.out;simpa using this
  clear HZ hk0;by_cases hk:c.kind=0
  case pos=>
   have hkb:(c.kind==0)=true:=by simpa using hk
   have hkd:decide (c.kind=0)=true:=by simpa using hk
   rw[hkd,Bool.true_and]at HZ1;clear hk hkd;generalize checkErr c.g=gz at*
   go_wp2_with fail;refine(HG.out W0 HB0.out).mono ?_;rintro e w1 ⟨rfl,hB1⟩;have HB1:=hid (up HB0.out hB1);have hX1:=hid (hX.out.below hB1);have hY1:=hid (HY.out.below hB1);clear lx ly x4 x5 y0 y4 y5 y6 y7 hX HY HB0 hB1 HG;have lx:=hX1.out.lt;have ly:=hY1.out.lt;have x5:=hX1.out.cell 5;have y6:=hY1.out.cell 6;have y7:=hY1.out.cell 7;simp only[xG,xH,xI]at x5 y6 y7;dsimp only;by_cases hgz:gz=0
   case neg=>
    have hb:(gz !=0)=true:=by simpa using hgz
    have hz:Hid (gz=z):=by show _=_;rw[HZ1.out,if_pos hb]
    clear hgz HZ1;go_wp2_with fail;go_ret;exact⟨ret_int hz.out,HB1.out⟩
   have hb:(gz !=0)=false:=by simpa using hgz
   have HZ2:Hid (z=if vl=false then 0 else if c.vals.length<1∨12<c.vals.length then 8 else dErr c.vals c.vals.length):=by show _=_;rw[HZ1.out,if_neg (by rw[hb];simp)]
   clear hgz HZ1;cases vl with
   |false=>
    have hz:Hid (0=z):=by show _=_;rw[HZ2.out];rfl
    go_wp2_with fail
    go_ret
    exact⟨ret_int hz.out,HB1.out⟩
   |true=>
    by_cases l1:c.vals.length<1
    case pos=>
     have g1:decide ((c.vals.length:Int)<1)=true:=by simp;omega
     have hz:Hid (8=z):=by show _=_;rw[HZ2.out,if_neg (by simp),if_pos (.inl l1)]
     clear l1;go_wp2_with fail;go_ret;exact⟨ret_int hz.out,HB1.out⟩
    have g1:decide ((c.vals.length:Int)<1)=false:=by simp;omega
    by_cases l2:12<c.vals.length
    case pos=>
     have g2:decide ((12:Int)<(c.vals.length:Int))=true:=by simp;omega
     have hz:Hid (8=z):=by show _=_;rw[HZ2.out,if_neg (by simp),if_pos (.inr l2)]
     clear l1 l2;go_wp2_with fail;go_ret;exact⟨ret_int hz.out,HB1.out⟩
    have g2:decide ((12:Int)<(c.vals.length:Int))=false:=by simp;omega
    have hz:Hid (dErr c.vals c.vals.length=z):=by show _=_;rw[HZ2.out,if_neg (by simp),if_neg (by omega)]
    clear l1 l2
    generalize dErr c.vals c.vals.length=dz at*
    go_wp2_with fail
    refine(HCH.out _ HB1.out).mono ?_
    rintro e w2 ⟨rfl,rfl⟩
    dsimp only
    go_wp2_with fail
    go_ret
    exact⟨ret_int hz.out,HB1.out⟩
  case neg=>
   have hkb:(c.kind==0)=false:=by simpa using hk
   have hkd:decide (c.kind=0)=false:=by simpa using hk
   have HZ2:Hid (z=if vl=false then 0 else if c.vals.length<1∨12<c.vals.length then 8 else dErr c.vals c.vals.length):=by show _=_;rw[HZ1.out,hkd];rfl
   clear hk hkd HZ1;cases vl with
   |false=>
    have hz:Hid (0=z):=by show _=_;rw[HZ2.out];rfl
    go_wp2_with fail
    go_ret
    exact⟨ret_int hz.out,HB0.out⟩
   |true=>
    by_cases l1:c.vals.length<1
    case pos=>
     have g1:decide ((c.vals.length:Int)<1)=true:=by simp;omega
     have hz:Hid (8=z):=by show _=_;rw[HZ2.out,if_neg (by simp),if_pos (.inl l1)]
     clear l1;go_wp2_with fail;go_ret;exact⟨ret_int hz.out,HB0.out⟩
    have g1:decide ((c.vals.length:Int)<1)=false:=by simp;omega
    by_cases l2:12<c.vals.length
    case pos=>
     have g2:decide ((12:Int)<(c.vals.length:Int))=true:=by simp;omega
     have hz:Hid (8=z):=by show _=_;rw[HZ2.out,if_neg (by simp),if_pos (.inr l2)]
     clear l1 l2;go_wp2_with fail;go_ret;exact⟨ret_int hz.out,HB0.out⟩
    have g2:decide ((12:Int)<(c.vals.length:Int))=false:=by simp;omega
    have hz:Hid (dErr c.vals c.vals.length=z):=by show _=_;rw[HZ2.out,if_neg (by simp),if_neg (by omega)]
    clear l1 l2
    generalize dErr c.vals c.vals.length=dz at*
    go_wp2_with fail
    refine(HCH.out _ HB0.out).mono ?_
    rintro e w2 ⟨rfl,rfl⟩
    dsimp only
    go_wp2_with fail
    go_ret
    exact⟨ret_int hz.out,HB0.out⟩
 ·rintro rfl hk0
  rw[hk0]at HZ
  have HZ1:Hid (z=if (decide (c.kind=0)&&checkErr c.g !=0)=true then checkErr c.g
   else if vl=false then 0
   else if c.vals.length<1∨12<c.vals.length then 8 else dErr c.vals c.vals.length):=by show _=_;have:=HZ.out;simpa using this
  clear HZ hk0;by_cases hk:c.kind=0
  case pos=>
   have hkb:(c.kind==0)=true:=by simpa using hk
   have hkd:decide (c.kind=0)=true:=by simpa using hk
   rw[hkd,Bool.true_and]at HZ1;clear hk hkd;generalize checkErr c.g=gz at*
   go_wp2_with fail;refine(HG.out W0 HB0.out).mono ?_;rintro e w1 ⟨rfl,hB1⟩;have HB1:=hid (up HB0.out hB1);have hX1:=hid (hX.out.below hB1);have hY1:=hid (HY.out.below hB1);clear lx ly x4 x5 y0 y4 y5 y6 y7 hX HY HB0 hB1 HG;have lx:=hX1.out.lt;have ly:=hY1.out.lt;have x5:=hX1.out.cell 5;have y6:=hY1.out.cell 6;have y7:=hY1.out.cell 7;simp only[xG,xH,xI]at x5 y6 y7;dsimp only;by_cases hgz:gz=0
   case neg=>
    have hb:(gz !=0)=true:=by simpa using hgz
    have hz:Hid (gz=z):=by show _=_;rw[HZ1.out,if_pos hb]
    clear hgz HZ1;go_wp2_with fail;go_ret;exact⟨ret_int hz.out,HB1.out⟩
   have hb:(gz !=0)=false:=by simpa using hgz
   have HZ2:Hid (z=if vl=false then 0 else if c.vals.length<1∨12<c.vals.length then 8 else dErr c.vals c.vals.length):=by show _=_;rw[HZ1.out,if_neg (by rw[hb];simp)]
   clear hgz HZ1;cases vl with
   |false=>
    have hz:Hid (0=z):=by show _=_;rw[HZ2.out];rfl
    go_wp2_with fail
    go_ret
    exact⟨ret_int hz.out,HB1.out⟩
   |true=>
    by_cases l1:c.vals.length<1
    case pos=>
     have g1:decide ((c.vals.length:Int)<1)=true:=by simp;omega
     have hz:Hid (8=z):=by show _=_;rw[HZ2.out,if_neg (by simp),if_pos (.inl l1)]
     clear l1;go_wp2_with fail;go_ret;exact⟨ret_int hz.out,HB1.out⟩
    have g1:decide ((c.vals.length:Int)<1)=false:=by simp;omega
    by_cases l2:12<c.vals.length
    case pos=>
     have g2:decide ((12:Int)<(c.vals.length:Int))=true:=by simp;omega
     have hz:Hid (8=z):=by show _=_;rw[HZ2.out,if_neg (by simp),if_pos (.inr l2)]
     clear l1 l2;go_wp2_with fail;go_ret;exact⟨ret_int hz.out,HB1.out⟩
    have g2:decide ((12:Int)<(c.vals.length:Int))=false:=by simp;omega
    have hz:Hid (dErr c.vals c.vals.length=z):=by show _=_;rw[HZ2.out,if_neg (by simp),if_neg (by omega)]
    clear l1 l2
    generalize dErr c.vals c.vals.length=dz at*
    go_wp2_with fail
    refine(HCH.out _ HB1.out).mono ?_
    rintro e w2 ⟨rfl,rfl⟩
    dsimp only
    go_wp2_with fail
    go_ret
    exact⟨ret_int hz.out,HB1.out⟩
  case neg=>
   have hkb:(c.kind==0)=false:=by simpa using hk
   have hkd:decide (c.kind=0)=false:=by simpa using hk
   have HZ2:Hid (z=if vl=false then 0 else if c.vals.length<1∨12<c.vals.length then 8 else dErr c.vals c.vals.length):=by show _=_;rw[HZ1.out,hkd];rfl
   clear hk hkd HZ1;cases vl with
   |false=>
    have hz:Hid (0=z):=by show _=_;rw[HZ2.out];rfl
    go_wp2_with fail
    go_ret
    exact⟨ret_int hz.out,HB0.out⟩
   |true=>
    by_cases l1:c.vals.length<1
    case pos=>
     have g1:decide ((c.vals.length:Int)<1)=true:=by simp;omega
     have hz:Hid (8=z):=by show _=_;rw[HZ2.out,if_neg (by simp),if_pos (.inl l1)]
     clear l1;go_wp2_with fail;go_ret;exact⟨ret_int hz.out,HB0.out⟩
    have g1:decide ((c.vals.length:Int)<1)=false:=by simp;omega
    by_cases l2:12<c.vals.length
    case pos=>
     have g2:decide ((12:Int)<(c.vals.length:Int))=true:=by simp;omega
     have hz:Hid (8=z):=by show _=_;rw[HZ2.out,if_neg (by simp),if_pos (.inr l2)]
     clear l1 l2;go_wp2_with fail;go_ret;exact⟨ret_int hz.out,HB0.out⟩
    have g2:decide ((12:Int)<(c.vals.length:Int))=false:=by simp;omega
    have hz:Hid (dErr c.vals c.vals.length=z):=by show _=_;rw[HZ2.out,if_neg (by simp),if_neg (by omega)]
    clear l1 l2
    generalize dErr c.vals c.vals.length=dz at*
    go_wp2_with fail
    refine(HCH.out _ HB0.out).mono ?_
    rintro e w2 ⟨rfl,rfl⟩
    dsimp only
    go_wp2_with fail
    go_ret
    exact⟨ret_int hz.out,HB0.out⟩
theorem verb_at (k:Nat)(hk:k<9):∃sb fn,verbsC[k*7]? =some (.string sb)∧verbsC[k*7+1]? =some (.bool (kName k))∧verbsC[k*7+2]? =some (.bool (kOn k))∧verbsC[k*7+3]? =some (.bool (kOther k))∧verbsC[k*7+4]? =some (.bool (kAt k))∧verbsC[k*7+5]? =some (.bool (kVals k))∧verbsC[k*7+6]? =some (.func fn #[] #[]):=by
 match k,hk with
 |0,_=>exact⟨_,_,rfl,rfl,rfl,rfl,rfl,rfl,rfl⟩
 |1,_=>exact⟨_,_,rfl,rfl,rfl,rfl,rfl,rfl,rfl⟩
 |2,_=>exact⟨_,_,rfl,rfl,rfl,rfl,rfl,rfl,rfl⟩
 |3,_=>exact⟨_,_,rfl,rfl,rfl,rfl,rfl,rfl,rfl⟩
 |4,_=>exact⟨_,_,rfl,rfl,rfl,rfl,rfl,rfl,rfl⟩
 |5,_=>exact⟨_,_,rfl,rfl,rfl,rfl,rfl,rfl,rfl⟩
 |6,_=>exact⟨_,_,rfl,rfl,rfl,rfl,rfl,rfl,rfl⟩
 |7,_=>exact⟨_,_,rfl,rfl,rfl,rfl,rfl,rfl,rfl⟩
 |8,_=>exact⟨_,_,rfl,rfl,rfl,rfl,rfl,rfl,rfl⟩
theorem verb_combo (k:Nat)(hk:k<9):(kName k=true∧kOn k=false∧kOther k=false∧kAt k=false∧kVals k=false∧((k:Int)==0)=true)∨(kName k=true∧kOn k=true∧kOther k=false∧kAt k=false∧kVals k=true∧((k:Int)==0)=false)∨(kName k=true∧kOn k=false∧kOther k=false∧kAt k=false∧kVals k=true∧((k:Int)==0)=false)∨(kName k=true∧kOn k=false∧kOther k=false∧kAt k=true∧kVals k=false∧((k:Int)==0)=false)∨(kName k=true∧kOn k=true∧kOther k=true∧kAt k=false∧kVals k=false∧((k:Int)==0)=false)∨(kName k=true∧kOn k=false∧kOther k=false∧kAt k=false∧kVals k=false∧((k:Int)==0)=false)∨(kName k=false∧kOn k=false∧kOther k=false∧kAt k=false∧kVals k=false∧((k:Int)==0)=false):=by
 match k,hk with
 |0,_=>decide
 |1,_=>decide
 |2,_=>decide
 |3,_=>decide
 |4,_=>decide
 |5,_=>decide
 |6,_=>decide
 |7,_=>decide
 |8,_=>decide
def spareV (nm on ot at' vl k0:Bool)(en eo et qz vz gz:Bool):Bool:=(!nm&& !en)||(!on&& !eo)||(!ot&& !et)||(!at'&& !qz)||(!vl&& !vz)||(!k0&& !gz)
theorem spare_eq (c:Cmd):spare c=spareV (kName c.kind) (kOn c.kind) (kOther c.kind) (kAt c.kind) (kVals c.kind) (c.kind==0) c.name.isEmpty c.on.isEmpty c.other.isEmpty (c.q==0) c.vals.isEmpty (zeroG c.g):=by
 unfold spare spareV;have h1:decide (c.q≠0)= !(c.q==0):=by cases h:(c.q==0)<;>simp_all
 have h2:decide (c.kind≠0)= !(c.kind==0):=by cases h:(c.kind==0)<;>simp_all
 rw[h1,h2]
theorem s_Right (c:Cmd)(cv:Value)(w:World)(hc:CmdR w cv c)(hm:SmCmd c):
 Calls Tryz.prog 18 #[cv] w fun e w'=>e= .returned (.int .i64 (rightErr c))∧Below w.heap.size w w':=by
 have HCM:Hid (∀ W,Below w.heap.size w W→CmdR W cv c):=fun W h=>hc.below h;obtain⟨ev,vv,rfl,he,hv⟩:=hc;obtain⟨ea,ec,rfl,_⟩:=id he;obtain⟨va,vc,rfl,hv1,hv2,hv3,_⟩:=id hv;have HWD:=hid (fun nm on ot at' vl sb fn W (h:Below w.heap.size w W)=>s_words nm on ot at' vl sb fn c _ W (HCM.out W h) hm);have HNM:=hid (fun nm on ot at' vl sb fn W (h:Below w.heap.size w W)=>s_numbers nm on ot at' vl sb fn c _ W (HCM.out W h));have HZG:=hid (fun W (h:Below w.heap.size w W)=>s_zero c.g (.agg #[.int .i64 c.g.n,.slice ea c.g.es.length ec]) W ⟨_,rfl,he.below h⟩);have HZ:Hid (rightErr c=if c.kind<0∨8<c.kind then 1 else if wordsErr c≠0 then wordsErr c else if numsErr c≠0 then numsErr c else if spare c=true then 3 else 0):=rfl
 have HWE:=hid (wordsV_eq c);have HNE:Hid (numsV (kAt c.kind) (kVals c.kind) c=numsErr c):=rfl;have HSP:=hid (spare_eq c);generalize rightErr c=z at*
 have hB:Below w.heap.size w (w.alloc (.cells #[.int .i64 c.kind,.string (str c.name),.string (str c.on),.string (str c.other),.int .i64 c.q,.int .i64 c.g.n,.slice ea c.g.es.length ec,.slice va c.vals.length vc] 31)):=by go_grown
 have HY:=hid (Blk.new w #[.int .i64 c.kind,.string (str c.name),.string (str c.on),.string (str c.other),.int .i64 c.q,.int .i64 c.g.n,.slice ea c.g.es.length ec,.slice va c.vals.length vc] 31);have HB0:=hid hB;clear hB he hv hm HCM;go_enter Tryz.func18,Tryz.ntmps18;go_upto_region 1 with fail;generalize w.alloc (.cells #[.int .i64 c.kind,.string (str c.name),.string (str c.on),.string (str c.other),.int .i64 c.q,.int .i64 c.g.n,.slice ea c.g.es.length ec,.slice va c.vals.length vc] 31)=W0 at*
 go_upto_region 2 with (first
  |(go_at_call 54;refine(s_verbs _).mono ?_;rintro e w1 ⟨rfl,hB1⟩;have HB1:=hid (up HB0.out hB1);have HY1:=hid (HY.out.below hB1);clear hB1)
  |(refine wpList_storeS (o:=⟨none,_,_,_,_,_⟩) _ rfl _ _ 111 rfl (.pointer (some ⟨w1.heap.size,0,none⟩)) rfl (.agg verbsC) rfl _ (run_storeAt_new w1 111 _ verbsC size_verbs rfl one_verbs) ?_))
 have HA2:=hid (Blk.new w1 verbsC 111);have HB2:=hid (HB1.out.alloc HB1.out.size (.cells verbsC 111));have HY2:=hid (HY1.out.alloc (.cells verbsC 111));generalize w1.alloc (.cells verbsC 111)=W2 at*
 generalize w1.heap.size=A at*
 clear HY HB0 HB1 HY1;have ly:=HY2.out.lt;have y0:=HY2.out.cell 0;have y1:=HY2.out.cell 1;have y2:=HY2.out.cell 2;have y3:=HY2.out.cell 3;have y4:=HY2.out.cell 4;have y5:=HY2.out.cell 5;have y6:=HY2.out.cell 6;have y7:=HY2.out.cell 7;simp only[xG,xH,xI]at y0 y1 y2 y3 y4 y5 y6 y7;by_cases hk1:c.kind<0
 case pos=>
  have g1:decide (c.kind<0)=true:=by simpa using hk1
  have hz:Hid (1=z):=by show _=_;rw[HZ.out,if_pos (.inl hk1)]
  clear hk1;go_wp2_with fail;go_ret;exact⟨ret_int hz.out,HB2.out⟩
 have g1:decide (c.kind<0)=false:=by simpa using hk1
 by_cases hk2:8<c.kind
 case pos=>
  have g2:decide (9≤c.kind)=true:=by simp;omega
  have hz:Hid (1=z):=by show _=_;rw[HZ.out,if_pos (.inr hk2)]
  clear hk1 hk2;go_wp2_with fail;go_ret;exact⟨ret_int hz.out,HB2.out⟩
 have g2:decide (9≤c.kind)=false:=by simp;omega
 have HZ1:Hid (z=if wordsErr c≠0 then wordsErr c else if numsErr c≠0 then numsErr c else if spare c=true then 3 else 0):=by show _=_;rw[HZ.out,if_neg (by omega)]
 obtain⟨kn,hkn⟩:∃kn:Nat,c.kind=(kn:Int):=⟨c.kind.toNat,by omega⟩;have hk9:kn<9:=by omega
 obtain⟨sb,fn,v0,v1,v2,v3,v4,v5,v6⟩:=verb_at kn hk9;rw[← hkn]at v1 v2 v3 v4 v5;have la:=HA2.out.lt;have a0:=(HA2.out.cell (kn*7)).trans v0;have a1:=(HA2.out.cell (kn*7+1)).trans v1;have a2:=(HA2.out.cell (kn*7+2)).trans v2;have a3:=(HA2.out.cell (kn*7+3)).trans v3;have a4:=(HA2.out.cell (kn*7+4)).trans v4;have a5:=(HA2.out.cell (kn*7+5)).trans v5;have a6:=(HA2.out.cell (kn*7+6)).trans v6;have HKEY:=hid (verb_combo kn hk9);rw[← hkn]at HKEY;have g3:(0:Int)≤(kn:Int):=by omega
 have g4:(kn:Int)<9:=by omega
 have HKN:=hid hkn;have HK0:Hid ((c.kind==0)=((kn:Int)==0)):=by show _=_;rw[hkn]
 clear v0 v1 v2 v3 v4 v5 v6 hk9 hk1 hk2 HZ;generalize kName c.kind=nm at*
 generalize kOn c.kind=on at*
 generalize kOther c.kind=ot at*
 generalize kAt c.kind=at' at*
 generalize kVals c.kind=vl at*
 rw[hkn]at g1 g2 y0;simp only[hkn]at HWD HNM;go_wp2_with fail;refine(HWD.out nm on ot at' vl sb fn _ ?hbw).mono ?_;case hbw=>exact up HB2.out (by go_grown)
 rintro e w3 ⟨rfl,hB3⟩;have hB3':Below W2.heap.size W2 w3:=up (by go_grown) hB3;have HV:=hid ((Blk.new W2 #[.string sb,.bool nm,.bool on,.bool ot,.bool at',.bool vl,.func fn #[] #[]] 110).below hB3);have HB3:=hid (up HB2.out hB3');have HY3:=hid (HY2.out.below hB3');clear hB3 hB3' ly y0 y1 y2 y3 y4 y5 y6 y7 a0 a1 a2 a3 a4 a5 a6 la HA2 HY2 HB2 HWD;generalize W2.heap.size=D at*
 rw[HWE.out];generalize wordsErr c=we at*
 have ly:=HY3.out.lt;have lv:=HV.out.lt;have y0:=HY3.out.cell 0;have y1:=HY3.out.cell 1;have y2:=HY3.out.cell 2;have y3:=HY3.out.cell 3;have y4:=HY3.out.cell 4;have y5:=HY3.out.cell 5;have y6:=HY3.out.cell 6;have y7:=HY3.out.cell 7;have v0:=HV.out.cell 0;have v1:=HV.out.cell 1;have v2:=HV.out.cell 2;have v3:=HV.out.cell 3;have v4:=HV.out.cell 4;have v5:=HV.out.cell 5;have v6:=HV.out.cell 6;simp only[xG,xH,xI]at y0 y1 y2 y3 y4 y5 y6 y7 v0 v1 v2 v3 v4 v5 v6;rw[HKN.out]at y0;dsimp only;by_cases hw0:we=0
 case neg=>
  have hb:(we !=0)=true:=by simpa using hw0
  have hz:Hid (we=z):=by show _=_;rw[HZ1.out,if_pos hw0]
  clear hw0;go_wp2_with fail;go_ret;exact⟨ret_int hz.out,HB3.out⟩
 have hb:(we !=0)=false:=by simpa using hw0
 have HZ2:Hid (z=if numsErr c≠0 then numsErr c else if spare c=true then 3 else 0):=by show _=_;rw[HZ1.out,if_neg (by simpa using hw0)]
 clear hw0 HZ1;go_wp2_with fail;refine(HNM.out nm on ot at' vl sb fn _ ?hbn).mono ?_;case hbn=>exact HB3.out
 rintro e w4 ⟨rfl,hB4⟩;have HB4:=hid (up HB3.out hB4);have HY4:=hid (HY3.out.below hB4);have HV4:=hid (HV.out.below hB4);clear hB4 ly lv y0 y1 y2 y3 y4 y5 y6 y7 v0 v1 v2 v3 v4 v5 v6 HY3 HV HB3 HNM;rw[HNE.out];generalize numsErr c=ne at*
 have ly:=HY4.out.lt;have lv:=HV4.out.lt;have y0:=HY4.out.cell 0;have y1:=HY4.out.cell 1;have y2:=HY4.out.cell 2;have y3:=HY4.out.cell 3;have y4:=HY4.out.cell 4;have y5:=HY4.out.cell 5;have y6:=HY4.out.cell 6;have y7:=HY4.out.cell 7;have v0:=HV4.out.cell 0;have v1:=HV4.out.cell 1;have v2:=HV4.out.cell 2;have v3:=HV4.out.cell 3;have v4:=HV4.out.cell 4;have v5:=HV4.out.cell 5;have v6:=HV4.out.cell 6;simp only[xG,xH,xI]at y0 y1 y2 y3 y4 y5 y6 y7 v0 v1 v2 v3 v4 v5 v6;rw[HKN.out]at y0;dsimp only;by_cases hn0:ne=0
 case neg=>
  have hb:(ne !=0)=true:=by simpa using hn0
  have hz:Hid (ne=z):=by show _=_;rw[HZ2.out,if_pos hn0]
  clear hn0;go_wp2_with fail;go_ret;exact⟨ret_int hz.out,HB4.out⟩
 have hb:(ne !=0)=false:=by simpa using hn0
 have HZ3:Hid (z=if spare c=true then 3 else 0):=by show _=_;rw[HZ2.out,if_neg (by simpa using hn0)]
 clear hn0 HZ2;have hen:=isE c.name;have heo:=isE c.on;have het:=isE c.other;have HQZ:Hid ((c.q==0)=(c.q==0)):=rfl;have HVZ:Hid (c.vals.isEmpty= !decide ((0:Int)<(c.vals.length:Int))):=by
  show _=_;cases c.vals with
  |nil=>rfl
  |cons x l=>simp
 rw[HSP.out]at HZ3;generalize str c.name=sn at*
 generalize str c.on=so at*
 generalize str c.other=st at*
 generalize c.name.isEmpty=en at*
 generalize c.on.isEmpty=eo at*
 generalize c.other.isEmpty=et at*
 generalize hqz:(c.q==0)=qz at*
 generalize hvz:c.vals.isEmpty=vz at*
 generalize zeroG c.g=gz at*
 rw[HK0.out]at HZ3;generalize hk0:((kn:Int)==0)=k0 at*
 have HKC:=HKEY.out;rw[HK0.out]at HKC;clear HKEY HSP;have hqz2:(c.q !=0)= !qz:=by rw[← hqz];rfl
 have hk02:((kn:Int)!=0)= !k0:=by rw[← hk0];rfl
 have hvz2:decide ((0:Int)<(c.vals.length:Int))= !vz:=by have:=HVZ.out;rw[this];simp
 have hvz3:decide (0<c.vals.length)= !vz:=by rw[← hvz2,Bool.eq_iff_iff];simp
 have HQ2:=hid hqz2;have HV2:=hid hvz2;have HV3:=hid hvz3;have HK2:=hid hk02;clear HVZ HQZ hqz hvz hk0 HK0 hqz2 hvz2 hvz3 hk02;rcases HKC with ⟨rfl,rfl,rfl,rfl,rfl,rfl⟩|⟨rfl,rfl,rfl,rfl,rfl,rfl⟩|⟨rfl,rfl,rfl,rfl,rfl,rfl⟩|⟨rfl,rfl,rfl,rfl,rfl,rfl⟩|⟨rfl,rfl,rfl,rfl,rfl,rfl⟩|⟨rfl,rfl,rfl,rfl,rfl,rfl⟩|⟨rfl,rfl,rfl,rfl,rfl,rfl⟩
 ·have sk:((kn:Int)!=0)=false:=HK2.out
  cases eo with
  |false=>
   have hz:Hid (3=z):=by show _=_;rw[HZ3.out];first|rfl|simp[spareV]
   go_wp2_with fail
   go_ret
   exact⟨ret_int hz.out,HB4.out⟩
  |true=>
  cases et with
  |false=>
   have hz:Hid (3=z):=by show _=_;rw[HZ3.out];first|rfl|simp[spareV]
   go_wp2_with fail
   go_ret
   exact⟨ret_int hz.out,HB4.out⟩
  |true=>
  cases qz with
  |false=>
   have sq:(c.q !=0)=true:=HQ2.out
   have hz:Hid (3=z):=by show _=_;rw[HZ3.out];first|rfl|simp[spareV]
   go_wp2_with fail
   go_ret
   exact⟨ret_int hz.out,HB4.out⟩
  |true=>
  have sq:(c.q !=0)=false:=HQ2.out;cases vz with
  |false=>
   have sv:decide ((0:Int)<(c.vals.length:Int))=true:=HV2.out
   have sv2:decide (0<c.vals.length)=true:=HV3.out
   have hz:Hid (3=z):=by show _=_;rw[HZ3.out];first|rfl|simp[spareV]
   go_wp2_with fail
   go_ret
   exact⟨ret_int hz.out,HB4.out⟩
  |true=>
  have sv:decide ((0:Int)<(c.vals.length:Int))=false:=HV2.out;have sv2:decide (0<c.vals.length)=false:=HV3.out;have hz:Hid (0=z):=by show _=_;rw[HZ3.out];first|rfl|simp[spareV]
  go_wp2_with fail;go_ret;exact⟨ret_int hz.out,HB4.out⟩
 ·have sk:((kn:Int)!=0)=true:=HK2.out
  cases et with
  |false=>
   have hz:Hid (3=z):=by show _=_;rw[HZ3.out];first|rfl|simp[spareV]
   go_wp2_with fail
   go_ret
   exact⟨ret_int hz.out,HB4.out⟩
  |true=>
  cases qz with
  |false=>
   have sq:(c.q !=0)=true:=HQ2.out
   have hz:Hid (3=z):=by show _=_;rw[HZ3.out];first|rfl|simp[spareV]
   go_wp2_with fail
   go_ret
   exact⟨ret_int hz.out,HB4.out⟩
  |true=>
  have sq:(c.q !=0)=false:=HQ2.out;go_wp2_with fail;refine(HZG.out _ HB4.out).mono ?_;rintro e w5 ⟨rfl,hB5⟩;dsimp only;cases gz with
  |false=>
   have hz:Hid (3=z):=by show _=_;rw[HZ3.out];first|rfl|simp[spareV]
   go_wp2_with fail
   go_ret
   exact⟨ret_int hz.out,up HB4.out hB5⟩
  |true=>
   have hz:Hid (0=z):=by show _=_;rw[HZ3.out];first|rfl|simp[spareV]
   go_wp2_with fail
   go_ret
   exact⟨ret_int hz.out,up HB4.out hB5⟩
 ·have sk:((kn:Int)!=0)=true:=HK2.out
  cases eo with
  |false=>
   have hz:Hid (3=z):=by show _=_;rw[HZ3.out];first|rfl|simp[spareV]
   go_wp2_with fail
   go_ret
   exact⟨ret_int hz.out,HB4.out⟩
  |true=>
  cases et with
  |false=>
   have hz:Hid (3=z):=by show _=_;rw[HZ3.out];first|rfl|simp[spareV]
   go_wp2_with fail
   go_ret
   exact⟨ret_int hz.out,HB4.out⟩
  |true=>
  cases qz with
  |false=>
   have sq:(c.q !=0)=true:=HQ2.out
   have hz:Hid (3=z):=by show _=_;rw[HZ3.out];first|rfl|simp[spareV]
   go_wp2_with fail
   go_ret
   exact⟨ret_int hz.out,HB4.out⟩
  |true=>
  have sq:(c.q !=0)=false:=HQ2.out;go_wp2_with fail;refine(HZG.out _ HB4.out).mono ?_;rintro e w5 ⟨rfl,hB5⟩;dsimp only;cases gz with
  |false=>
   have hz:Hid (3=z):=by show _=_;rw[HZ3.out];first|rfl|simp[spareV]
   go_wp2_with fail
   go_ret
   exact⟨ret_int hz.out,up HB4.out hB5⟩
  |true=>
   have hz:Hid (0=z):=by show _=_;rw[HZ3.out];first|rfl|simp[spareV]
   go_wp2_with fail
   go_ret
   exact⟨ret_int hz.out,up HB4.out hB5⟩
 ·have sk:((kn:Int)!=0)=true:=HK2.out
  cases eo with
  |false=>
   have hz:Hid (3=z):=by show _=_;rw[HZ3.out];first|rfl|simp[spareV]
   go_wp2_with fail
   go_ret
   exact⟨ret_int hz.out,HB4.out⟩
  |true=>
  cases et with
  |false=>
   have hz:Hid (3=z):=by show _=_;rw[HZ3.out];first|rfl|simp[spareV]
   go_wp2_with fail
   go_ret
   exact⟨ret_int hz.out,HB4.out⟩
  |true=>
  cases vz with
  |false=>
   have sv:decide ((0:Int)<(c.vals.length:Int))=true:=HV2.out
   have sv2:decide (0<c.vals.length)=true:=HV3.out
   have hz:Hid (3=z):=by show _=_;rw[HZ3.out];first|rfl|simp[spareV]
   go_wp2_with fail
   go_ret
   exact⟨ret_int hz.out,HB4.out⟩
  |true=>
  have sv:decide ((0:Int)<(c.vals.length:Int))=false:=HV2.out;have sv2:decide (0<c.vals.length)=false:=HV3.out;go_wp2_with fail;refine(HZG.out _ HB4.out).mono ?_;rintro e w5 ⟨rfl,hB5⟩;dsimp only;cases gz with
  |false=>
   have hz:Hid (3=z):=by show _=_;rw[HZ3.out];first|rfl|simp[spareV]
   go_wp2_with fail
   go_ret
   exact⟨ret_int hz.out,up HB4.out hB5⟩
  |true=>
   have hz:Hid (0=z):=by show _=_;rw[HZ3.out];first|rfl|simp[spareV]
   go_wp2_with fail
   go_ret
   exact⟨ret_int hz.out,up HB4.out hB5⟩
 ·have sk:((kn:Int)!=0)=true:=HK2.out
  cases qz with
  |false=>
   have sq:(c.q !=0)=true:=HQ2.out
   have hz:Hid (3=z):=by show _=_;rw[HZ3.out];first|rfl|simp[spareV]
   go_wp2_with fail
   go_ret
   exact⟨ret_int hz.out,HB4.out⟩
  |true=>
  have sq:(c.q !=0)=false:=HQ2.out;cases vz with
  |false=>
   have sv:decide ((0:Int)<(c.vals.length:Int))=true:=HV2.out
   have sv2:decide (0<c.vals.length)=true:=HV3.out
   have hz:Hid (3=z):=by show _=_;rw[HZ3.out];first|rfl|simp[spareV]
   go_wp2_with fail
   go_ret
   exact⟨ret_int hz.out,HB4.out⟩
  |true=>
  have sv:decide ((0:Int)<(c.vals.length:Int))=false:=HV2.out;have sv2:decide (0<c.vals.length)=false:=HV3.out;go_wp2_with fail;refine(HZG.out _ HB4.out).mono ?_;rintro e w5 ⟨rfl,hB5⟩;dsimp only;cases gz with
  |false=>
   have hz:Hid (3=z):=by show _=_;rw[HZ3.out];first|rfl|simp[spareV]
   go_wp2_with fail
   go_ret
   exact⟨ret_int hz.out,up HB4.out hB5⟩
  |true=>
   have hz:Hid (0=z):=by show _=_;rw[HZ3.out];first|rfl|simp[spareV]
   go_wp2_with fail
   go_ret
   exact⟨ret_int hz.out,up HB4.out hB5⟩
 ·have sk:((kn:Int)!=0)=true:=HK2.out
  cases eo with
  |false=>
   have hz:Hid (3=z):=by show _=_;rw[HZ3.out];first|rfl|simp[spareV]
   go_wp2_with fail
   go_ret
   exact⟨ret_int hz.out,HB4.out⟩
  |true=>
  cases et with
  |false=>
   have hz:Hid (3=z):=by show _=_;rw[HZ3.out];first|rfl|simp[spareV]
   go_wp2_with fail
   go_ret
   exact⟨ret_int hz.out,HB4.out⟩
  |true=>
  cases qz with
  |false=>
   have sq:(c.q !=0)=true:=HQ2.out
   have hz:Hid (3=z):=by show _=_;rw[HZ3.out];first|rfl|simp[spareV]
   go_wp2_with fail
   go_ret
   exact⟨ret_int hz.out,HB4.out⟩
  |true=>
  have sq:(c.q !=0)=false:=HQ2.out;cases vz with
  |false=>
   have sv:decide ((0:Int)<(c.vals.length:Int))=true:=HV2.out
   have sv2:decide (0<c.vals.length)=true:=HV3.out
   have hz:Hid (3=z):=by show _=_;rw[HZ3.out];first|rfl|simp[spareV]
   go_wp2_with fail
   go_ret
   exact⟨ret_int hz.out,HB4.out⟩
  |true=>
  have sv:decide ((0:Int)<(c.vals.length:Int))=false:=HV2.out;have sv2:decide (0<c.vals.length)=false:=HV3.out;go_wp2_with fail;refine(HZG.out _ HB4.out).mono ?_;rintro e w5 ⟨rfl,hB5⟩;dsimp only;cases gz with
  |false=>
   have hz:Hid (3=z):=by show _=_;rw[HZ3.out];first|rfl|simp[spareV]
   go_wp2_with fail
   go_ret
   exact⟨ret_int hz.out,up HB4.out hB5⟩
  |true=>
   have hz:Hid (0=z):=by show _=_;rw[HZ3.out];first|rfl|simp[spareV]
   go_wp2_with fail
   go_ret
   exact⟨ret_int hz.out,up HB4.out hB5⟩
 ·have sk:((kn:Int)!=0)=true:=HK2.out
  cases en with
  |false=>
   have hz:Hid (3=z):=by show _=_;rw[HZ3.out];first|rfl|simp[spareV]
   go_wp2_with fail
   go_ret
   exact⟨ret_int hz.out,HB4.out⟩
  |true=>
  cases eo with
  |false=>
   have hz:Hid (3=z):=by show _=_;rw[HZ3.out];first|rfl|simp[spareV]
   go_wp2_with fail
   go_ret
   exact⟨ret_int hz.out,HB4.out⟩
  |true=>
  cases et with
  |false=>
   have hz:Hid (3=z):=by show _=_;rw[HZ3.out];first|rfl|simp[spareV]
   go_wp2_with fail
   go_ret
   exact⟨ret_int hz.out,HB4.out⟩
  |true=>
  cases qz with
  |false=>
   have sq:(c.q !=0)=true:=HQ2.out
   have hz:Hid (3=z):=by show _=_;rw[HZ3.out];first|rfl|simp[spareV]
   go_wp2_with fail
   go_ret
   exact⟨ret_int hz.out,HB4.out⟩
  |true=>
  have sq:(c.q !=0)=false:=HQ2.out;cases vz with
  |false=>
   have sv:decide ((0:Int)<(c.vals.length:Int))=true:=HV2.out
   have sv2:decide (0<c.vals.length)=true:=HV3.out
   have hz:Hid (3=z):=by show _=_;rw[HZ3.out];first|rfl|simp[spareV]
   go_wp2_with fail
   go_ret
   exact⟨ret_int hz.out,HB4.out⟩
  |true=>
  have sv:decide ((0:Int)<(c.vals.length:Int))=false:=HV2.out;have sv2:decide (0<c.vals.length)=false:=HV3.out;go_wp2_with fail;refine(HZG.out _ HB4.out).mono ?_;rintro e w5 ⟨rfl,hB5⟩;dsimp only;cases gz with
  |false=>
   have hz:Hid (3=z):=by show _=_;rw[HZ3.out];first|rfl|simp[spareV]
   go_wp2_with fail
   go_ret
   exact⟨ret_int hz.out,up HB4.out hB5⟩
  |true=>
   have hz:Hid (0=z):=by show _=_;rw[HZ3.out];first|rfl|simp[spareV]
   go_wp2_with fail
   go_ret
   exact⟨ret_int hz.out,up HB4.out hB5⟩
end Go.Proofs.YtclgllmipcbagaaGreatDoor
