/-
  Parts of the proof: XK6 XN1
-/
import Derived.Test.YtclgllmipcbagaaGreatDoorBk07
namespace Go.Proofs.YtclgllmipcbagaaGreatDoor
set_option linter.unusedVariables false
set_option linter.unusedSimpArgs false
set_option maxRecDepth 100000
set_option maxHeartbeats 16000000
open Go.RowKit
theorem p_takeW (B b:Nat)(s:List UInt8)(p:Nat)(v:Value)(l:List Tok)(w:World)(h:Scr w B b s p v l)(hp:p<s.length)(hs:s.length≤4096)(hl:l.length≤p):
 Calls Tryz.prog 380 #[.pointer (some ⟨b,0,none⟩),.agg #[.string (str letters),.int .i64 0,.func (.func 102) #[] #[],.bool true]] w
  (Took B b s p v l 0 ((s.drop p).takeWhile isLet) (wordErr ((s.drop p).takeWhile isLet)) w):=by
 have hsz:=str_size s;have hpt:p≤(str s).size:=by rw[hsz];omega
 obtain⟨c0,c1,c2,hbl,f1,f2⟩:=h.cells;have HS:=hid h;have hvl:∀k,v.ownBlock=some k→k<w.heap.size:=fun k hk=>(h.row.lt k hk).2;obtain⟨va,vn,vc,rfl⟩:∃va vn vc,v= .slice va vn vc:=by
  obtain⟨a,cap,h1,_⟩:=owns_at h.row;exact⟨_,_,_,h1⟩
 have HX:Hid ((str s).extract p s.length=str (s.drop p)):=by
  show _=_;rw[str_extract,List.take_of_length_le (by rw[List.length_drop];omega)]
 have hrest:(s.drop p).length=s.length-p:=List.length_drop;generalize s.drop p=rest at*
 have HR:=hid hrest;have hrl:rest.length≤4096:=by omega
 have htd:=take_drop_len isLet rest;have hdw:Lib.trimLeftS rest letters=rest.dropWhile isLet:=by
  unfold Lib.trimLeftS;exact congrArg (List.dropWhile · rest) (funext fun c=>let_has c)
 have htk:rest.take (rest.takeWhile isLet).length=rest.takeWhile isLet:=by
  have:=List.takeWhile_append_dropWhile (p:=isLet) (l:=rest);conv=>lhs;arg 2;rw[← this]
  rw[List.take_left]
 have HEX:Hid ((str rest).extract 0 (rest.takeWhile isLet).length=str (rest.takeWhile isLet)):=by
  show _=_;rw[str_extract,List.drop_zero,Nat.sub_zero,htk]
 have htrim:=fun w=>c_TrimLeft rest letters w (by decide) (by decide);rw[hdw]at htrim;generalize rest.takeWhile isLet=t at*
 generalize rest.dropWhile isLet=d at*
 have hlen:(rest.length:Int)-(d.length:Int)=(t.length:Int):=by omega
 have htl:t.length≤rest.length:=by omega
 have HN:Hid (RowKit.wrap64 (((str rest).size:Int)-((str d).size:Int))=(t.length:Int)):=by
  show _=_;rw[str_size,str_size,hlen,wrapS _ (by omega)]
 have HTS:Hid (t.length≤(str rest).size):=by show _≤_;rw[str_size];exact htl
 have HTB:Hid (p+t.length≤4096):=by show _≤_;omega
 have hchk:=fun w=>p_Word t w (by omega);generalize wordErr t=er at*
 have HRL:=hid hrl;have HSL:=hid hs;have HLL:=hid hl;have HP:=hid hp;clear h hrest hrl htd hdw htk hs hl hp;go_enter Tryz.func380,Tryz.ntmps380;go_wp2;go_quiet (fail);rw[HX.out];go_wp2_with fail;refine(htrim _).mono ?_;rintro e w1 ⟨rfl,hB1⟩;go_simp;go_wp2_with fail;rw[HN.out];have hk1:Below w.heap.size w w1:=(((Below.refl _ _).alloc (Nat.le_refl _) _).trans (below_dN (Below.refl _ _) _)).trans (hB1.mono (by simp));have S1:=HS.out.below hk1;have hbx:∀j,w1.cell? ⟨w.heap.size,j,none⟩=(#[.string (str letters),.int .i64 0,.func (.func 102) #[] #[],.bool true]:Array Value)[j]? :=fun j=>by
  rw[(bcellB hB1).1 _ _ (by simp)];exact World.cell?_alloc_new _ _ _ _
 have hx1:w1.cell? ⟨w.heap.size,1,none⟩=some (.int .i64 0):=hbx 1;have hx2:w1.cell? ⟨w.heap.size,2,none⟩=some (.func (.func 102) #[] #[]):=hbx 2;have hbs:w.heap.size<w1.heap.size:=by have:=hB1.size;simp at this;omega
 have hts:=HTS.out;clear hB1 hbx htrim hlen htl c0 c1 c2 f1 f2;let S:World→Prop:=fun w'=>w'=w1.drew
 (refine wp_region_text 5 [0,1,2,3,4] S (by kernel_rfl) (by kernel_rfl) (by intro _ _ d _ _ h;cases d<;>exact h) ?hS ?_;rotate_left;simp only[xA,xB,xC,xD,xE,xF]);case hS=>rfl
 (repeat ((refine' wpSeq_take rfl _ (by rfl) ?_ ?_;rotate_left;focus(intro w' hS;(try dsimp only at hS);subst hS;go_simp;(first|done|with_reducible rfl));(try go_frame));(try go_frame)));refine wpSeq_nil ?_;clear S;rw[HEX.out];clear hts;go_wp2_with fail;refine(hchk _).mono ?_;rintro e w2 ⟨rfl,hB2⟩;have hk2:Below w1.heap.size w1 w2:=((Below.refl w1.heap.size w1).drew).trans hB2;have S2:=S1.below hk2;have hB02:Below B w w2:=(hk1.mono HS.out.size).trans (hk2.mono S1.size);have hy1:w2.cell? ⟨w.heap.size,1,none⟩=some (.int .i64 0):=((bcellB hk2).1 _ _ hbs).trans hx1;have hbs2:w.heap.size<w2.heap.size:=Nat.lt_of_lt_of_le hbs hk2.size
 obtain⟨d0,d1,d2,dbl,e1,e2⟩:=S2.cells;clear hB2 hx1 hx2 hbs hk1 hk2 S1 hchk HN HX;have H2:=hid S2;clear S2;have HB02:=hid hB02;clear hB02;by_cases her:er=0
 ·subst her
  go_simp;go_wp2_with fail;let S:World→Prop:=fun w'=>w'.cell? ⟨b,0,none⟩=some (.string (str s))∧w'.cell? ⟨b,1,none⟩=some (.int .i64 p)∧w'.cell? ⟨b,2,none⟩=some (.slice va vn vc)∧w'.cell? ⟨w.heap.size,1,none⟩=some (.int .i64 0)
  have hts:=HTS.out;(refine wp_region_text 19 [0,1,2,3,4,5,6,7,8,9,10,11,12,13,14,15,16,17,18] S (by kernel_rfl) (by kernel_rfl) (by intro _ _ d _ _ h;cases d<;>exact h) ?hS ?_;rotate_left;simp only[xA,xB,xC,xD,xE,xF]);case hS=>exact⟨d0,d1,d2,hy1⟩
  (repeat ((refine' wpSeq_take rfl _ (by rfl) ?_ ?_;rotate_left;focus(intro w' hS;(try dsimp only at hS);obtain⟨s0,s1,s2,s3⟩:=hS;go_simp;(first|done|with_reducible rfl));(try go_frame));(try go_frame)));rw[HEX.out];obtain⟨W3,hW3⟩:∃W3,W3=(w2.alloc (.cells #[.int .i64 0,.string (str t),.int .i64 p] 307)).drew:=⟨_,rfl⟩;have hg3:w2.grownBy W3 none:=by rw[hW3];exact⟨rfl,rfl,rfl,by simp,fun k hk _=>Below.heap_alloc w2 _ k hk⟩
  have hsz3:w2.heap.size<W3.heap.size:=by rw[hW3];simp
  have hn3:∀j u,(⟨0,t,p⟩:Tok).cells[j]? =some u→W3.cell? ((⟨w2.heap.size,0,none⟩:Addr).add j)=some u:=fun j u hj=>by
   have e2:(⟨w2.heap.size,0,none⟩:Addr).add j=⟨w2.heap.size,j,none⟩:=by unfold Addr.add;split<;>simp_all
   rw[e2,hW3];have:=World.cell?_alloc_new w2 (#[.int .i64 0,.string (str t),.int .i64 p]) 307 j;exact this.trans (by simpa[Tok.cells]using hj)
  have hgc:∀o,∀k,k<w2.heap.size→W3.cell? ⟨k,o,none⟩=w2.cell? ⟨k,o,none⟩:=fun o k hk=>grown_cell hg3 k o hk (by simp);have hS3:S W3:=⟨(hgc _ _ dbl).trans d0,(hgc _ _ dbl).trans d1,(hgc _ _ dbl).trans d2,(hgc _ _ hbs2).trans hy1⟩;refine wpSeq_call rfl (by rfl) (fun K hK=> ?_);go_simp;rw[← hW3];refine hK _ _ hS3 ?_;clear hK K;(try go_frame);have hrow3:W3.ownsRow B 307 3 (.slice va vn vc) l.length (tokCells l):=H2.out.row.kept hg3 (by cases h:(Value.slice va vn vc).ownBlock<;>simp);have hbs3:B≤W3.heap.size:=Nat.le_trans H2.out.size (Nat.le_of_lt hsz3);have hblk3:Blk W3 b _ _:=H2.out.blk.grown hg3 (by simp)
  refine wpSeq_call rfl (by rfl) (fun K hK=> ?_);refine wp_app3 W3 (.tmp 40) (.tmp 51) 234 rfl 307 Tryz.underToks Tryz.infoTok B _ l hrow3 ⟨0,t,p⟩ w2.heap.size hn3 rfl rfl (by have:=HLL.out;have:=HTB.out;omega) hbs3 ?_;intro v' w4 hown4 hgr4 hbk;obtain⟨va',vn',vc',rfl⟩:∃va vn vc,v'= .slice va vn vc:=by
   obtain⟨a,cap,h1,_⟩:=owns_at hown4;exact⟨_,_,_,h1⟩
  have hne:=H2.out.ne;have hbn:some w.heap.size≠(Value.slice va vn vc).ownBlock:=fun h=>absurd (hvl _ h.symm) (Nat.lt_irrefl _);have hblk4:Blk w4 b _ _:=hblk3.grown hgr4 (Ne.symm hne);have hS4:S w4:=⟨(grown_cell hgr4 b 0 (by omega) hne).trans hS3.1,(grown_cell hgr4 b 1 (by omega) hne).trans hS3.2.1,(grown_cell hgr4 b 2 (by omega) hne).trans hS3.2.2.1,(grown_cell hgr4 _ 1 (by omega) hbn).trans hS3.2.2.2⟩;refine hK _ _ hS4 ?_;clear hK K;(try go_frame);(repeat ((refine' wpSeq_take rfl _ (by rfl) ?_ ?_;rotate_left;focus(intro w' hS;(try dsimp only at hS);obtain⟨s0,s1,s2,s3⟩:=hS;go_simp;(first|done|with_reducible rfl));(try go_frame));(try go_frame)))
  refine wpSeq_nil ?_;obtain⟨g0,g1,g2,g3⟩:=hS4;have gl4:=hblk4.lt;have gf1:=hblk4.frozen 1;have gf2:=hblk4.frozen 2;have HTL:Hid (RowKit.wrap64 ((p:Int)+(t.length:Int))=((p+t.length:Nat):Int)):=by
   show _=_;have:=HTB.out;rw[wrapS _ (by omega)];omega
  clear S hS3;go_wp2_with fail;rw[HTL.out];go_ret;refine⟨rfl,?_,fun h=>absurd rfl h,fun _=>⟨_,Scr.put hblk4 H2.out.le (Nat.le_trans hbs3 hgr4.size) hown4 rfl⟩⟩;have hBB:=((HB02.out.grown hg3 H2.out.size (by simp)).grown hgr4 hbs3 (fun k hk=>(hbk k hk).1));exact(hBB.setCell (p:=⟨b,2,none⟩) H2.out.le _).setCell (p:=⟨b,1,none⟩) H2.out.le _
 ·go_simp
  go_wp2_with fail;go_ret;exact⟨rfl,HB02.out,fun _=>H2.out,fun h=>absurd h her⟩
theorem p_takeN (B b:Nat)(s:List UInt8)(p:Nat)(v:Value)(l:List Tok)(w:World)(h:Scr w B b s p v l)(hp:p<s.length)(hs:s.length≤4096)(hl:l.length≤p):
 Calls Tryz.prog 380 #[.pointer (some ⟨b,0,none⟩),.agg #[.string (str figures),.int .i64 1,.func (.func 394) #[] #[],.bool true]] w
  (Took B b s p v l 1 ((s.drop p).takeWhile isDig) (numErr ((s.drop p).takeWhile isDig)) w):=by
 have hsz:=str_size s;have hpt:p≤(str s).size:=by rw[hsz];omega
 obtain⟨c0,c1,c2,hbl,f1,f2⟩:=h.cells;have HS:=hid h;have hvl:∀k,v.ownBlock=some k→k<w.heap.size:=fun k hk=>(h.row.lt k hk).2;obtain⟨va,vn,vc,rfl⟩:∃va vn vc,v= .slice va vn vc:=by
  obtain⟨a,cap,h1,_⟩:=owns_at h.row;exact⟨_,_,_,h1⟩
 have HX:Hid ((str s).extract p s.length=str (s.drop p)):=by
  show _=_;rw[str_extract,List.take_of_length_le (by rw[List.length_drop];omega)]
 have hrest:(s.drop p).length=s.length-p:=List.length_drop;generalize s.drop p=rest at*
 have HR:=hid hrest;have hrl:rest.length≤4096:=by omega
 have htd:=take_drop_len isDig rest;have hdw:Lib.trimLeftS rest figures=rest.dropWhile isDig:=by
  unfold Lib.trimLeftS;exact congrArg (List.dropWhile · rest) (funext fun c=>dig_has c)
 have htk:rest.take (rest.takeWhile isDig).length=rest.takeWhile isDig:=by
  have:=List.takeWhile_append_dropWhile (p:=isDig) (l:=rest);conv=>lhs;arg 2;rw[← this]
  rw[List.take_left]
 have HEX:Hid ((str rest).extract 0 (rest.takeWhile isDig).length=str (rest.takeWhile isDig)):=by
  show _=_;rw[str_extract,List.drop_zero,Nat.sub_zero,htk]
 have htrim:=fun w=>c_TrimLeft rest figures w (by decide) (by decide);rw[hdw]at htrim;generalize rest.takeWhile isDig=t at*
 generalize rest.dropWhile isDig=d at*
 have hlen:(rest.length:Int)-(d.length:Int)=(t.length:Int):=by omega
 have htl:t.length≤rest.length:=by omega
 have HN:Hid (RowKit.wrap64 (((str rest).size:Int)-((str d).size:Int))=(t.length:Int)):=by
  show _=_;rw[str_size,str_size,hlen,wrapS _ (by omega)]
 have HTS:Hid (t.length≤(str rest).size):=by show _≤_;rw[str_size];exact htl
 have HTB:Hid (p+t.length≤4096):=by show _≤_;omega
 have hchk:=fun w=>p_number t w (by omega);generalize numErr t=er at*
 have HRL:=hid hrl;have HSL:=hid hs;have HLL:=hid hl;have HP:=hid hp;clear h hrest hrl htd hdw htk hs hl hp;go_enter Tryz.func380,Tryz.ntmps380;go_wp2;go_quiet (fail);rw[HX.out];go_wp2_with fail;refine(htrim _).mono ?_;rintro e w1 ⟨rfl,hB1⟩;go_simp;go_wp2_with fail;rw[HN.out];have hk1:Below w.heap.size w w1:=(((Below.refl _ _).alloc (Nat.le_refl _) _).trans (below_dN (Below.refl _ _) _)).trans (hB1.mono (by simp));have S1:=HS.out.below hk1;have hbx:∀j,w1.cell? ⟨w.heap.size,j,none⟩=(#[.string (str figures),.int .i64 1,.func (.func 394) #[] #[],.bool true]:Array Value)[j]? :=fun j=>by
  rw[(bcellB hB1).1 _ _ (by simp)];exact World.cell?_alloc_new _ _ _ _
 have hx1:w1.cell? ⟨w.heap.size,1,none⟩=some (.int .i64 1):=hbx 1;have hx2:w1.cell? ⟨w.heap.size,2,none⟩=some (.func (.func 394) #[] #[]):=hbx 2;have hbs:w.heap.size<w1.heap.size:=by have:=hB1.size;simp at this;omega
 have hts:=HTS.out;clear hB1 hbx htrim hlen htl c0 c1 c2 f1 f2;let S:World→Prop:=fun w'=>w'=w1.drew
 (refine wp_region_text 5 [0,1,2,3,4] S (by kernel_rfl) (by kernel_rfl) (by intro _ _ d _ _ h;cases d<;>exact h) ?hS ?_;rotate_left;simp only[xA,xB,xC,xD,xE,xF]);case hS=>rfl
 (repeat ((refine' wpSeq_take rfl _ (by rfl) ?_ ?_;rotate_left;focus(intro w' hS;(try dsimp only at hS);subst hS;go_simp;(first|done|with_reducible rfl));(try go_frame));(try go_frame)));refine wpSeq_nil ?_;clear S;rw[HEX.out];clear hts;go_wp2_with fail;refine(hchk _).mono ?_;rintro e w2 ⟨rfl,hB2⟩;have hk2:Below w1.heap.size w1 w2:=((Below.refl w1.heap.size w1).drew).trans hB2;have S2:=S1.below hk2;have hB02:Below B w w2:=(hk1.mono HS.out.size).trans (hk2.mono S1.size);have hy1:w2.cell? ⟨w.heap.size,1,none⟩=some (.int .i64 1):=((bcellB hk2).1 _ _ hbs).trans hx1;have hbs2:w.heap.size<w2.heap.size:=Nat.lt_of_lt_of_le hbs hk2.size
 obtain⟨d0,d1,d2,dbl,e1,e2⟩:=S2.cells;clear hB2 hx1 hx2 hbs hk1 hk2 S1 hchk HN HX;have H2:=hid S2;clear S2;have HB02:=hid hB02;clear hB02;by_cases her:er=0
 ·subst her
  go_simp;go_wp2_with fail;let S:World→Prop:=fun w'=>w'.cell? ⟨b,0,none⟩=some (.string (str s))∧w'.cell? ⟨b,1,none⟩=some (.int .i64 p)∧w'.cell? ⟨b,2,none⟩=some (.slice va vn vc)∧w'.cell? ⟨w.heap.size,1,none⟩=some (.int .i64 1)
  have hts:=HTS.out;(refine wp_region_text 19 [0,1,2,3,4,5,6,7,8,9,10,11,12,13,14,15,16,17,18] S (by kernel_rfl) (by kernel_rfl) (by intro _ _ d _ _ h;cases d<;>exact h) ?hS ?_;rotate_left;simp only[xA,xB,xC,xD,xE,xF]);case hS=>exact⟨d0,d1,d2,hy1⟩
  (repeat ((refine' wpSeq_take rfl _ (by rfl) ?_ ?_;rotate_left;focus(intro w' hS;(try dsimp only at hS);obtain⟨s0,s1,s2,s3⟩:=hS;go_simp;(first|done|with_reducible rfl));(try go_frame));(try go_frame)));rw[HEX.out];obtain⟨W3,hW3⟩:∃W3,W3=(w2.alloc (.cells #[.int .i64 1,.string (str t),.int .i64 p] 307)).drew:=⟨_,rfl⟩;have hg3:w2.grownBy W3 none:=by rw[hW3];exact⟨rfl,rfl,rfl,by simp,fun k hk _=>Below.heap_alloc w2 _ k hk⟩
  have hsz3:w2.heap.size<W3.heap.size:=by rw[hW3];simp
  have hn3:∀j u,(⟨1,t,p⟩:Tok).cells[j]? =some u→W3.cell? ((⟨w2.heap.size,0,none⟩:Addr).add j)=some u:=fun j u hj=>by
   have e2:(⟨w2.heap.size,0,none⟩:Addr).add j=⟨w2.heap.size,j,none⟩:=by unfold Addr.add;split<;>simp_all
   rw[e2,hW3];have:=World.cell?_alloc_new w2 (#[.int .i64 1,.string (str t),.int .i64 p]) 307 j;exact this.trans (by simpa[Tok.cells]using hj)
  have hgc:∀o,∀k,k<w2.heap.size→W3.cell? ⟨k,o,none⟩=w2.cell? ⟨k,o,none⟩:=fun o k hk=>grown_cell hg3 k o hk (by simp);have hS3:S W3:=⟨(hgc _ _ dbl).trans d0,(hgc _ _ dbl).trans d1,(hgc _ _ dbl).trans d2,(hgc _ _ hbs2).trans hy1⟩;refine wpSeq_call rfl (by rfl) (fun K hK=> ?_);go_simp;rw[← hW3];refine hK _ _ hS3 ?_;clear hK K;(try go_frame);have hrow3:W3.ownsRow B 307 3 (.slice va vn vc) l.length (tokCells l):=H2.out.row.kept hg3 (by cases h:(Value.slice va vn vc).ownBlock<;>simp);have hbs3:B≤W3.heap.size:=Nat.le_trans H2.out.size (Nat.le_of_lt hsz3);have hblk3:Blk W3 b _ _:=H2.out.blk.grown hg3 (by simp)
  refine wpSeq_call rfl (by rfl) (fun K hK=> ?_);refine wp_app3 W3 (.tmp 40) (.tmp 51) 234 rfl 307 Tryz.underToks Tryz.infoTok B _ l hrow3 ⟨1,t,p⟩ w2.heap.size hn3 rfl rfl (by have:=HLL.out;have:=HTB.out;omega) hbs3 ?_;intro v' w4 hown4 hgr4 hbk;obtain⟨va',vn',vc',rfl⟩:∃va vn vc,v'= .slice va vn vc:=by
   obtain⟨a,cap,h1,_⟩:=owns_at hown4;exact⟨_,_,_,h1⟩
  have hne:=H2.out.ne;have hbn:some w.heap.size≠(Value.slice va vn vc).ownBlock:=fun h=>absurd (hvl _ h.symm) (Nat.lt_irrefl _);have hblk4:Blk w4 b _ _:=hblk3.grown hgr4 (Ne.symm hne);have hS4:S w4:=⟨(grown_cell hgr4 b 0 (by omega) hne).trans hS3.1,(grown_cell hgr4 b 1 (by omega) hne).trans hS3.2.1,(grown_cell hgr4 b 2 (by omega) hne).trans hS3.2.2.1,(grown_cell hgr4 _ 1 (by omega) hbn).trans hS3.2.2.2⟩;refine hK _ _ hS4 ?_;clear hK K;(try go_frame);(repeat ((refine' wpSeq_take rfl _ (by rfl) ?_ ?_;rotate_left;focus(intro w' hS;(try dsimp only at hS);obtain⟨s0,s1,s2,s3⟩:=hS;go_simp;(first|done|with_reducible rfl));(try go_frame));(try go_frame)))
  refine wpSeq_nil ?_;obtain⟨g0,g1,g2,g3⟩:=hS4;have gl4:=hblk4.lt;have gf1:=hblk4.frozen 1;have gf2:=hblk4.frozen 2;have HTL:Hid (RowKit.wrap64 ((p:Int)+(t.length:Int))=((p+t.length:Nat):Int)):=by
   show _=_;have:=HTB.out;rw[wrapS _ (by omega)];omega
  clear S hS3;go_wp2_with fail;rw[HTL.out];go_ret;refine⟨rfl,?_,fun h=>absurd rfl h,fun _=>⟨_,Scr.put hblk4 H2.out.le (Nat.le_trans hbs3 hgr4.size) hown4 rfl⟩⟩;have hBB:=((HB02.out.grown hg3 H2.out.size (by simp)).grown hgr4 hbs3 (fun k hk=>(hbk k hk).1));exact(hBB.setCell (p:=⟨b,2,none⟩) H2.out.le _).setCell (p:=⟨b,1,none⟩) H2.out.le _
 ·go_simp
  go_wp2_with fail;go_ret;exact⟨rfl,HB02.out,fun _=>H2.out,fun h=>absurd h her⟩
theorem p_takeS (B b:Nat)(s:List UInt8)(p:Nat)(v:Value)(l:List Tok)(w:World)(h:Scr w B b s p v l)(hp:p<s.length)(hs:s.length≤4096)(hl:l.length≤p):
 Calls Tryz.prog 380 #[.pointer (some ⟨b,0,none⟩),.agg #[.string (str marks),.int .i64 2,.func (.func 395) #[] #[],.bool false]] w
  (Took B b s p v l 2 ((s.drop p).take 1) (sgnErr ((s.drop p).take 1)) w):=by
 have hsz:=str_size s;have hpt:p≤(str s).size:=by rw[hsz];omega
 obtain⟨c0,c1,c2,hbl,f1,f2⟩:=h.cells;have HS:=hid h;have hvl:∀k,v.ownBlock=some k→k<w.heap.size:=fun k hk=>(h.row.lt k hk).2;obtain⟨va,vn,vc,rfl⟩:∃va vn vc,v= .slice va vn vc:=by
  obtain⟨a,cap,h1,_⟩:=owns_at h.row;exact⟨_,_,_,h1⟩
 have HX:Hid ((str s).extract p s.length=str (s.drop p)):=by
  show _=_;rw[str_extract,List.take_of_length_le (by rw[List.length_drop];omega)]
 have hrest:(s.drop p).length=s.length-p:=List.length_drop;generalize s.drop p=rest at*
 have HR:=hid hrest;have hrl:rest.length≤4096:=by omega
 obtain⟨t,ht⟩:∃t,t=rest.take 1:=⟨_,rfl⟩;rw[← ht];have htlen:t.length=1:=by rw[ht,List.length_take];omega
 have HEX:Hid ((str rest).extract 0 1=str t):=by
  show _=_;rw[str_extract,List.drop_zero,Nat.sub_zero,ht]
 have htl:t.length≤rest.length:=by omega
 have HTS:Hid (1≤(str rest).size):=by show _≤_;rw[str_size,←htlen];exact htl
 have HTB:Hid (p+t.length≤4096):=by show _≤_;omega
 have hchk:=fun w=>p_sign t w;generalize sgnErr t=er at*
 have HRL:=hid hrl;have HSL:=hid hs;have HLL:=hid hl;have HP:=hid hp;have HTL1:=hid htlen;clear h hrest hrl htlen ht hs hl hp;go_enter Tryz.func380,Tryz.ntmps380;go_wp2;go_quiet (fail);rw[HX.out];go_wp2_with fail;obtain⟨w1,hw1⟩:∃w1,w1=(w.alloc (.cells #[.string (str marks),.int .i64 2,.func (.func 395) #[] #[],.bool false] 432)).drewN nq:=⟨_,rfl⟩;rw[← hw1];have hk1:Below w.heap.size w w1:=by
  rw[hw1];exact((Below.refl _ _).alloc (Nat.le_refl _) _).trans (below_dN (Below.refl _ _) _)
 have S1:=HS.out.below hk1;have hbx:∀j,w1.cell? ⟨w.heap.size,j,none⟩=(#[.string (str marks),.int .i64 2,.func (.func 395) #[] #[],.bool false]:Array Value)[j]? :=fun j=>by
  rw[hw1];exact World.cell?_alloc_new _ _ _ _
 have hx1:w1.cell? ⟨w.heap.size,1,none⟩=some (.int .i64 2):=hbx 1;have hx2:w1.cell? ⟨w.heap.size,2,none⟩=some (.func (.func 395) #[] #[]):=hbx 2;have hbs:w.heap.size<w1.heap.size:=by rw[hw1];simp
 have hts:=HTS.out;have hts2:(1:Int)≤((str rest).size:Int):=by omega
 clear hbx hw1 htl c0 c1 c2 f1 f2;let S:World→Prop:=fun w'=>w'=w1.drew
 (refine wp_region_text 5 [0,1,2,3,4] S (by kernel_rfl) (by kernel_rfl) (by intro _ _ d _ _ h;cases d<;>exact h) ?hS ?_;rotate_left;simp only[xA,xB,xC,xD,xE,xF]);case hS=>rfl
 (repeat ((refine' wpSeq_take rfl _ (by rfl) ?_ ?_;rotate_left;focus(intro w' hS;(try dsimp only at hS);subst hS;go_simp;(first|done|with_reducible rfl));(try go_frame));(try go_frame)));refine wpSeq_nil ?_;clear S;rw[HEX.out];clear hts hts2;go_wp2_with fail;refine(hchk _).mono ?_;rintro e w2 ⟨rfl,hB2⟩;have hk2:Below w1.heap.size w1 w2:=((Below.refl w1.heap.size w1).drew).trans hB2;have S2:=S1.below hk2;have hB02:Below B w w2:=(hk1.mono HS.out.size).trans (hk2.mono S1.size);have hy1:w2.cell? ⟨w.heap.size,1,none⟩=some (.int .i64 2):=((bcellB hk2).1 _ _ hbs).trans hx1;have hbs2:w.heap.size<w2.heap.size:=Nat.lt_of_lt_of_le hbs hk2.size
 obtain⟨d0,d1,d2,dbl,e1,e2⟩:=S2.cells;clear hB2 hx1 hx2 hbs hk1 hk2 S1 hchk HX;have H2:=hid S2;clear S2;have HB02:=hid hB02;clear hB02;by_cases her:er=0
 ·subst her
  go_simp;go_wp2_with fail;let S:World→Prop:=fun w'=>w'.cell? ⟨b,0,none⟩=some (.string (str s))∧w'.cell? ⟨b,1,none⟩=some (.int .i64 p)∧w'.cell? ⟨b,2,none⟩=some (.slice va vn vc)∧w'.cell? ⟨w.heap.size,1,none⟩=some (.int .i64 2)
  have hts:=HTS.out;have hts2:(1:Int)≤((str rest).size:Int):=by omega
  (refine wp_region_text 19 [0,1,2,3,4,5,6,7,8,9,10,11,12,13,14,15,16,17,18] S (by kernel_rfl) (by kernel_rfl) (by intro _ _ d _ _ h;cases d<;>exact h) ?hS ?_;rotate_left;simp only[xA,xB,xC,xD,xE,xF]);case hS=>exact⟨d0,d1,d2,hy1⟩
  (repeat ((refine' wpSeq_take rfl _ (by rfl) ?_ ?_;rotate_left;focus(intro w' hS;(try dsimp only at hS);obtain⟨s0,s1,s2,s3⟩:=hS;go_simp;(first|done|with_reducible rfl));(try go_frame));(try go_frame)));rw[HEX.out];obtain⟨W3,hW3⟩:∃W3,W3=(w2.alloc (.cells #[.int .i64 2,.string (str t),.int .i64 p] 307)).drew:=⟨_,rfl⟩;have hg3:w2.grownBy W3 none:=by rw[hW3];exact⟨rfl,rfl,rfl,by simp,fun k hk _=>Below.heap_alloc w2 _ k hk⟩
  have hsz3:w2.heap.size<W3.heap.size:=by rw[hW3];simp
  have hn3:∀j u,(⟨2,t,p⟩:Tok).cells[j]? =some u→W3.cell? ((⟨w2.heap.size,0,none⟩:Addr).add j)=some u:=fun j u hj=>by
   have e2:(⟨w2.heap.size,0,none⟩:Addr).add j=⟨w2.heap.size,j,none⟩:=by unfold Addr.add;split<;>simp_all
   rw[e2,hW3];have:=World.cell?_alloc_new w2 (#[.int .i64 2,.string (str t),.int .i64 p]) 307 j;exact this.trans (by simpa[Tok.cells]using hj)
  have hgc:∀o,∀k,k<w2.heap.size→W3.cell? ⟨k,o,none⟩=w2.cell? ⟨k,o,none⟩:=fun o k hk=>grown_cell hg3 k o hk (by simp);have hS3:S W3:=⟨(hgc _ _ dbl).trans d0,(hgc _ _ dbl).trans d1,(hgc _ _ dbl).trans d2,(hgc _ _ hbs2).trans hy1⟩;refine wpSeq_call rfl (by rfl) (fun K hK=> ?_);go_simp;rw[← hW3];refine hK _ _ hS3 ?_;clear hK K;(try go_frame);have hrow3:W3.ownsRow B 307 3 (.slice va vn vc) l.length (tokCells l):=H2.out.row.kept hg3 (by cases h:(Value.slice va vn vc).ownBlock<;>simp);have hbs3:B≤W3.heap.size:=Nat.le_trans H2.out.size (Nat.le_of_lt hsz3);have hblk3:Blk W3 b _ _:=H2.out.blk.grown hg3 (by simp)
  refine wpSeq_call rfl (by rfl) (fun K hK=> ?_);refine wp_app3 W3 (.tmp 40) (.tmp 51) 234 rfl 307 Tryz.underToks Tryz.infoTok B _ l hrow3 ⟨2,t,p⟩ w2.heap.size hn3 rfl rfl (by have:=HLL.out;have:=HTB.out;omega) hbs3 ?_;intro v' w4 hown4 hgr4 hbk;obtain⟨va',vn',vc',rfl⟩:∃va vn vc,v'= .slice va vn vc:=by
   obtain⟨a,cap,h1,_⟩:=owns_at hown4;exact⟨_,_,_,h1⟩
  have hne:=H2.out.ne;have hbn:some w.heap.size≠(Value.slice va vn vc).ownBlock:=fun h=>absurd (hvl _ h.symm) (Nat.lt_irrefl _);have hblk4:Blk w4 b _ _:=hblk3.grown hgr4 (Ne.symm hne);have hS4:S w4:=⟨(grown_cell hgr4 b 0 (by omega) hne).trans hS3.1,(grown_cell hgr4 b 1 (by omega) hne).trans hS3.2.1,(grown_cell hgr4 b 2 (by omega) hne).trans hS3.2.2.1,(grown_cell hgr4 _ 1 (by omega) hbn).trans hS3.2.2.2⟩;refine hK _ _ hS4 ?_;clear hK K;(try go_frame);(repeat ((refine' wpSeq_take rfl _ (by rfl) ?_ ?_;rotate_left;focus(intro w' hS;(try dsimp only at hS);obtain⟨s0,s1,s2,s3⟩:=hS;go_simp;(first|done|with_reducible rfl));(try go_frame));(try go_frame)))
  refine wpSeq_nil ?_;obtain⟨g0,g1,g2,g3⟩:=hS4;have gl4:=hblk4.lt;have gf1:=hblk4.frozen 1;have gf2:=hblk4.frozen 2;have HTL:Hid (RowKit.wrap64 ((p:Int)+1)=((p+t.length:Nat):Int)):=by
   show _=_;have:=HTB.out;have:=HTL1.out;rw[wrapS _ (by omega)];omega
  clear S hS3;go_wp2_with fail;rw[HTL.out];go_ret;refine⟨rfl,?_,fun h=>absurd rfl h,fun _=>⟨_,Scr.put hblk4 H2.out.le (Nat.le_trans hbs3 hgr4.size) hown4 rfl⟩⟩;have hBB:=((HB02.out.grown hg3 H2.out.size (by simp)).grown hgr4 hbs3 (fun k hk=>(hbk k hk).1));exact(hBB.setCell (p:=⟨b,2,none⟩) H2.out.le _).setCell (p:=⟨b,1,none⟩) H2.out.le _
 ·go_simp
  go_wp2_with fail;go_ret;exact⟨rfl,HB02.out,fun _=>H2.out,fun h=>absurd h her⟩
theorem c_Index (cs:List UInt8)(u:UInt8)(b:Bool)(h:cs.contains u=b)(w:World):
 Calls Tryz.prog 377 #[.string (str cs),.int .u8 u.toNat] w fun e w'=>∃i:Int,e= .returned (.int .i64 i)∧decide (0≤i)=b∧w'=w:=by
 refine(Any.strings_IndexByte lay137 (str cs) u.toNat w).mono ?_;rintro e w' ⟨h1,h2⟩;refine⟨_,h1,?_,h2⟩;rw[← h,←idx_ge];simp[str_data]
theorem Took.from {B b:Nat}{s:List UInt8}{p:Nat}{v:Value}{l:List Tok}{k:Int}{t:List UInt8}{er:Int}{w W:World}{e:Ending}{w':World}(h:Took B b s p v l k t er W e w')(hB:Below B w W):Took B b s p v l k t er w e w':=
 ⟨h.1,hB.trans h.2.1,h.2.2.1,h.2.2.2⟩
theorem tok_one (c:UInt8)(r:List UInt8):(isLet c=true→kindOf c=0∧runOf (c::r)=(c::r).takeWhile isLet)∧(isLet c=false→isDig c=true→kindOf c=1∧runOf (c::r)=(c::r).takeWhile isDig)∧
 (isLet c=false→isDig c=false→isSgn c=true→kindOf c=2∧runOf (c::r)=(c::r).take 1)∧(isLet c=false→isDig c=false→isSgn c=false→kindOf c=4):=by
 refine⟨fun h=> ?_,fun h h2=> ?_,fun h h2 h3=> ?_,fun h h2 h3=> ?_⟩<;>simp[kindOf,runOf_cons, *]
theorem idx_cls0 (w:World):(Instr.index 433 clsV (.int .i64 0)).run Tryz.prog w= .ok (.agg #[.string (str letters),.int .i64 0,.func (.func 102) #[] #[],.bool true]) w:=by kernel_rfl
theorem idx_cls1 (w:World):(Instr.index 433 clsV (.int .i64 1)).run Tryz.prog w= .ok (.agg #[.string (str figures),.int .i64 1,.func (.func 394) #[] #[],.bool true]) w:=by kernel_rfl
theorem idx_cls2 (w:World):(Instr.index 433 clsV (.int .i64 2)).run Tryz.prog w= .ok (.agg #[.string (str marks),.int .i64 2,.func (.func 395) #[] #[],.bool false]) w:=by kernel_rfl
theorem lx_next (B b:Nat)(s:List UInt8)(p:Nat)(v:Value)(l:List Tok)(w:World)(h:Scr w B b s p v l)(hp:p<s.length)(hs:s.length≤4096)(hl:l.length≤p)(c:UInt8)(r:List UInt8)(hd:s.drop p=c::r):
 Calls Tryz.prog 345 #[.pointer (some ⟨b,0,none⟩)] w (Took B b s p v l (kindOf c) (runOf (c::r)) (tokErr (kindOf c) (runOf (c::r))) w):=by
 have HT:=hid (tok_one c r);have hsz:=str_size s;have hpt:p<(str s).size:=by rw[hsz];omega
 have hc:(str s)[p]'hpt=c:=by
  have:=str_drop hpt;rw[hd]at this;injection this with h1 _
  exact h1.symm
 have HL:∀{b1},isLet c=b1→Hid (∀ w,Calls Tryz.prog 377 #[.string (str letters),.int .u8 ((str s)[p]'hpt).toNat] w fun e w'=>∃i:Int,e= .returned (.int .i64 i)∧decide (0≤i)=b1∧w'=w):=fun e w=>by rw[hc];exact c_Index _ _ _ ((let_has c).trans e) w
 have HD:∀{b1},isDig c=b1→Hid (∀ w,Calls Tryz.prog 377 #[.string (str figures),.int .u8 ((str s)[p]'hpt).toNat] w fun e w'=>∃i:Int,e= .returned (.int .i64 i)∧decide (0≤i)=b1∧w'=w):=fun e w=>by rw[hc];exact c_Index _ _ _ ((dig_has c).trans e) w
 have HG:∀{b1},isSgn c=b1→Hid (∀ w,Calls Tryz.prog 377 #[.string (str marks),.int .u8 ((str s)[p]'hpt).toNat] w fun e w'=>∃i:Int,e= .returned (.int .i64 i)∧decide (0≤i)=b1∧w'=w):=fun e w=>by rw[hc];exact c_Index _ _ _ e w
 have HS:=hid h;have HP:=hid (And.intro hp (And.intro hs hl));obtain⟨c0,c1,c2,hbl,_,_⟩:=h.cells;have hpi:(p:Int)<((str s).size:Int):=by omega
 clear h hp hs hl hc hsz;go_enter Tryz.func345,Tryz.ntmps345;go_wp2_with fail;refine(p_classes _).mono ?_;rintro e w0 ⟨rfl,hB0⟩;go_simp;go_wp2_with fail;go_loopw [6] (fun i wr=>∃k:Nat,k≤3∧i= .int .i64 k∧(0<k→isLet c=false)∧(1<k→isDig c=false)∧(2<k→isSgn c=false)∧Below w.heap.size w wr) (fun i _=>3-(intOf i).toNat);case atStart=>exact⟨0,by omega,rfl,by omega,by omega,by omega,hB0⟩
 case round=>
  clear hB0;obtain⟨k,hk,rfl,k0,k1,k2,hB⟩:=hrel;obtain⟨r1,r2⟩:=bcellB hB;have hcc0:=(r1 b 0 hbl).trans c0;have hcc1:=(r1 b 1 hbl).trans c1;have hS1:=hid (HS.out.below hB);have hbl1:b<wr.heap.size:=by have:=hB.size;omega
  clear c0 c1 c2 r1 r2;match k,hk with
  |0,_=>
   clear k0 k1 k2
   have i0:=idx_cls0
   have hB2:Below w.heap.size w (wr.alloc (.cells #[.string (str letters),.int .i64 0,.func (.func 102) #[] #[],.bool true] 432)).drew:=(hB.alloc hB.size _).drew
   cases hx:isLet c with
   |true=>
    have hq:=HL hx
    have hz:=hid (HT.out.1 hx)
    go_wp2_with fail
    let S:World→Prop:=fun w'=>w'=(wr.alloc (.cells #[.string (str letters),.int .i64 0,.func (.func 102) #[] #[],.bool true] 432)).drew
    (refine wp_region_text 11 [0,1,2,3,4,5,6,7,8,9,10] S (by kernel_rfl) (by kernel_rfl) (by intro _ _ d _ _ h;cases d<;>exact h) ?hS ?_;rotate_left;simp only[xA,xB,xC,xD,xE,xF])
    case hS=>rfl
    (repeat ((refine' wpSeq_take rfl _ (by rfl) ?_ ?_;rotate_left;focus(intro w' hS;(try dsimp only at hS);subst hS;go_simp;(first|done|with_reducible rfl));(try go_frame));(try go_frame)))
    refine wpSeq_nil ?_
    clear S
    go_wp2_with fail
    refine(hq.out _).mono ?_
    rintro e w2 ⟨i,rfl,hi,rfl⟩
    go_simp
    go_wp2_with fail
    have hS2:=HS.out.below hB2
    obtain⟨p1,p2,p3⟩:=HP.out
    refine(p_takeW B b s p v l _ hS2 p1 p2 p3).mono ?_
    intro e w3 hTk
    have hBB:=hB2.mono HS.out.size
    rw[hd,←hz.out.2]at hTk
    have hTk':Took B b s p v l (kindOf c) (runOf (c::r)) (tokErr (kindOf c) (runOf (c::r))) w e w3:=by
     rw[hz.out.1];exact hTk.from hBB
    clear hTk hS2 p1 p2 p3 hBB hi hz
    obtain⟨rfl,t1,t2,t3⟩:=hTk'
    have H1:=hid t1
    have H2:=hid t2
    have H3:=hid t3
    clear t1 t2 t3
    go_simp
    go_wp2_with fail
    go_ret
    exact⟨rfl,H1.out,H2.out,H3.out⟩
   |false=>
    have hq:=HL hx
    go_wp2_with fail
    let S:World→Prop:=fun w'=>w'=(wr.alloc (.cells #[.string (str letters),.int .i64 0,.func (.func 102) #[] #[],.bool true] 432)).drew
    (refine wp_region_text 11 [0,1,2,3,4,5,6,7,8,9,10] S (by kernel_rfl) (by kernel_rfl) (by intro _ _ d _ _ h;cases d<;>exact h) ?hS ?_;rotate_left;simp only[xA,xB,xC,xD,xE,xF])
    case hS=>rfl
    (repeat ((refine' wpSeq_take rfl _ (by rfl) ?_ ?_;rotate_left;focus(intro w' hS;(try dsimp only at hS);subst hS;go_simp;(first|done|with_reducible rfl));(try go_frame));(try go_frame)))
    refine wpSeq_nil ?_
    clear S
    go_wp2_with fail
    refine(hq.out _).mono ?_
    rintro e w2 ⟨i,rfl,hi,rfl⟩
    go_simp
    go_wp2_with fail
    go_roundw
    case rel=>exact⟨1,by omega,rfl,fun _=>trivial,by omega,by omega,hB2⟩
    case measure=>simp[intOf]
  |1,_=>
   have a0:=k0 (by omega)
   clear k0 k1 k2
   have i0:=idx_cls1
   have hB2:Below w.heap.size w (wr.alloc (.cells #[.string (str figures),.int .i64 1,.func (.func 394) #[] #[],.bool true] 432)).drew:=(hB.alloc hB.size _).drew
   cases hx:isDig c with
   |true=>
    have hq:=HD hx
    have hz:=hid (HT.out.2.1 a0 hx)
    go_wp2_with fail
    let S:World→Prop:=fun w'=>w'=(wr.alloc (.cells #[.string (str figures),.int .i64 1,.func (.func 394) #[] #[],.bool true] 432)).drew
    (refine wp_region_text 11 [0,1,2,3,4,5,6,7,8,9,10] S (by kernel_rfl) (by kernel_rfl) (by intro _ _ d _ _ h;cases d<;>exact h) ?hS ?_;rotate_left;simp only[xA,xB,xC,xD,xE,xF])
    case hS=>rfl
    (repeat ((refine' wpSeq_take rfl _ (by rfl) ?_ ?_;rotate_left;focus(intro w' hS;(try dsimp only at hS);subst hS;go_simp;(first|done|with_reducible rfl));(try go_frame));(try go_frame)))
    refine wpSeq_nil ?_
    clear S
    go_wp2_with fail
    refine(hq.out _).mono ?_
    rintro e w2 ⟨i,rfl,hi,rfl⟩
    go_simp
    go_wp2_with fail
    have hS2:=HS.out.below hB2
    obtain⟨p1,p2,p3⟩:=HP.out
    refine(p_takeN B b s p v l _ hS2 p1 p2 p3).mono ?_
    intro e w3 hTk
    have hBB:=hB2.mono HS.out.size
    rw[hd,←hz.out.2]at hTk
    have hTk':Took B b s p v l (kindOf c) (runOf (c::r)) (tokErr (kindOf c) (runOf (c::r))) w e w3:=by
     rw[hz.out.1];exact hTk.from hBB
    clear hTk hS2 p1 p2 p3 hBB hi hz
    obtain⟨rfl,t1,t2,t3⟩:=hTk'
    have H1:=hid t1
    have H2:=hid t2
    have H3:=hid t3
    clear t1 t2 t3
    go_simp
    go_wp2_with fail
    go_ret
    exact⟨rfl,H1.out,H2.out,H3.out⟩
   |false=>
    have hq:=HD hx
    go_wp2_with fail
    let S:World→Prop:=fun w'=>w'=(wr.alloc (.cells #[.string (str figures),.int .i64 1,.func (.func 394) #[] #[],.bool true] 432)).drew
    (refine wp_region_text 11 [0,1,2,3,4,5,6,7,8,9,10] S (by kernel_rfl) (by kernel_rfl) (by intro _ _ d _ _ h;cases d<;>exact h) ?hS ?_;rotate_left;simp only[xA,xB,xC,xD,xE,xF])
    case hS=>rfl
    (repeat ((refine' wpSeq_take rfl _ (by rfl) ?_ ?_;rotate_left;focus(intro w' hS;(try dsimp only at hS);subst hS;go_simp;(first|done|with_reducible rfl));(try go_frame));(try go_frame)))
    refine wpSeq_nil ?_
    clear S
    go_wp2_with fail
    refine(hq.out _).mono ?_
    rintro e w2 ⟨i,rfl,hi,rfl⟩
    go_simp
    go_wp2_with fail
    go_roundw
    case rel=>exact⟨2,by omega,rfl,fun _=>a0,fun _=>trivial,by omega,hB2⟩
    case measure=>simp[intOf]
  |2,_=>
   have a0:=k0 (by omega)
   have a1:=k1 (by omega)
   clear k0 k1 k2
   have i0:=idx_cls2
   have hB2:Below w.heap.size w (wr.alloc (.cells #[.string (str marks),.int .i64 2,.func (.func 395) #[] #[],.bool false] 432)).drew:=(hB.alloc hB.size _).drew
   cases hx:isSgn c with
   |true=>
    have hq:=HG hx
    have hz:=hid (HT.out.2.2.1 a0 a1 hx)
    go_wp2_with fail
    let S:World→Prop:=fun w'=>w'=(wr.alloc (.cells #[.string (str marks),.int .i64 2,.func (.func 395) #[] #[],.bool false] 432)).drew
    (refine wp_region_text 11 [0,1,2,3,4,5,6,7,8,9,10] S (by kernel_rfl) (by kernel_rfl) (by intro _ _ d _ _ h;cases d<;>exact h) ?hS ?_;rotate_left;simp only[xA,xB,xC,xD,xE,xF])
    case hS=>rfl
    (repeat ((refine' wpSeq_take rfl _ (by rfl) ?_ ?_;rotate_left;focus(intro w' hS;(try dsimp only at hS);subst hS;go_simp;(first|done|with_reducible rfl));(try go_frame));(try go_frame)))
    refine wpSeq_nil ?_
    clear S
    go_wp2_with fail
    refine(hq.out _).mono ?_
    rintro e w2 ⟨i,rfl,hi,rfl⟩
    go_simp
    go_wp2_with fail
    have hS2:=HS.out.below hB2
    obtain⟨p1,p2,p3⟩:=HP.out
    refine(p_takeS B b s p v l _ hS2 p1 p2 p3).mono ?_
    intro e w3 hTk
    have hBB:=hB2.mono HS.out.size
    rw[hd,←hz.out.2]at hTk
    have hTk':Took B b s p v l (kindOf c) (runOf (c::r)) (tokErr (kindOf c) (runOf (c::r))) w e w3:=by
     rw[hz.out.1];exact hTk.from hBB
    clear hTk hS2 p1 p2 p3 hBB hi hz
    obtain⟨rfl,t1,t2,t3⟩:=hTk'
    have H1:=hid t1
    have H2:=hid t2
    have H3:=hid t3
    clear t1 t2 t3
    go_simp
    go_wp2_with fail
    go_ret
    exact⟨rfl,H1.out,H2.out,H3.out⟩
   |false=>
    have hq:=HG hx
    go_wp2_with fail
    let S:World→Prop:=fun w'=>w'=(wr.alloc (.cells #[.string (str marks),.int .i64 2,.func (.func 395) #[] #[],.bool false] 432)).drew
    (refine wp_region_text 11 [0,1,2,3,4,5,6,7,8,9,10] S (by kernel_rfl) (by kernel_rfl) (by intro _ _ d _ _ h;cases d<;>exact h) ?hS ?_;rotate_left;simp only[xA,xB,xC,xD,xE,xF])
    case hS=>rfl
    (repeat ((refine' wpSeq_take rfl _ (by rfl) ?_ ?_;rotate_left;focus(intro w' hS;(try dsimp only at hS);subst hS;go_simp;(first|done|with_reducible rfl));(try go_frame));(try go_frame)))
    refine wpSeq_nil ?_
    clear S
    go_wp2_with fail
    refine(hq.out _).mono ?_
    rintro e w2 ⟨i,rfl,hi,rfl⟩
    go_simp
    go_wp2_with fail
    go_roundw
    case rel=>exact⟨3,by omega,rfl,fun _=>a0,fun _=>a1,fun _=>trivial,hB2⟩
    case measure=>simp[intOf]
  |3,_=>
   have a0:=k0 (by omega)
   have a1:=k1 (by omega)
   have a2:=k2 (by omega)
   have hz:=hid (HT.out.2.2.2 a0 a1 a2)
   clear k0 k1 k2
   go_wp2_with fail
   go_ret
   rw[hz.out]
   exact⟨rfl,hB.mono HS.out.size,fun _=>hS1.out,fun h=>absurd h (by simp[tokErr])⟩
theorem Scr.step {w:World}{B b:Nat}{s:List UInt8}{p q:Nat}{v:Value}{l:List Tok}(h:Scr w B b s p v l):Scr (w.setCell ⟨b,1,none⟩ (.int .i64 q)) B b s q v l:=by
 have h1:Blk (w.setCell ⟨b,1,none⟩ (.int .i64 q)) b _ _:=h.blk.set 1 (.int .i64 q);have ho:v.ownBlock=none∨v.ownBlock≠some b:= .inr (fun e=>h.ne e.symm);exact⟨h1,h.le,h.row.kept (grown_set w b 1 _) ho,h.ne,by simpa using h.size⟩
theorem Scr.start (w:World)(s:List UInt8):Scr (w.alloc (.cells #[.string (str s),.int .i64 0,.slice none 0 0] 403)) w.heap.size w.heap.size s 0 (.slice none 0 0) []:=
 ⟨heap_alloc_new w _,Nat.le_refl _,World.ownsRow_nil _ _ _ _,by simp[Value.ownBlock],by simp⟩
def posIn (w:World)(b:Nat):Nat:=(intOf ((w.cell? ⟨b,1,none⟩).getD undef)).toNat
theorem Scr.pos {w:World}{B b:Nat}{s:List UInt8}{p:Nat}{v:Value}{l:List Tok}(h:Scr w B b s p v l):posIn w b=p:=by
 unfold posIn;rw[h.cells.2.1];simp[intOf]
theorem p_Scan (s:List UInt8)(w:World):Calls Tryz.prog 291 #[.string (str s)] w (RetScan (scanR s) w):=by
 have hsz:=str_size s;by_cases hlen:4096<s.length
 ·have h1:(4096:Int)<((str s).size:Int):=by rw[hsz];omega
  have hz:scanR s= .inl (0,19):=by unfold scanR;rw[if_pos hlen]
  rw[hz];clear hz hlen hsz;go_enter Tryz.func291,Tryz.ntmps291;go_wp2_with fail;go_ret3;exact⟨_,rfl,World.ownsRow_nil _ _ _ _,Below.refl _ _⟩
 ·have h1:¬(4096:Int)<((str s).size:Int):=by rw[hsz];omega
  have hz:scanR s=fuelS s 0:=by unfold scanR;rw[if_neg hlen];rfl
  rw[hz];have HZ:Hid (Scn.pre [] (fuelS (s.drop 0) 0)=fuelS s 0):=pre_nil _;generalize fuelS s 0=z at*
  have HL:Hid (s.length≤4096):=by show _≤_;omega
  have HSZ:=hid hsz;clear hz hlen hsz;go_enter Tryz.func291,Tryz.ntmps291;go_wp2_with fail
  go_loopw [6] (fun _ wr=>∃(p:Nat) (v:Value) (l:List Tok),p≤s.length∧l.length≤p∧Scr wr w.heap.size w.heap.size s p v l∧
   Hid (Scn.pre l (fuelS (s.drop p) p)=z)∧Below w.heap.size w wr) (fun _ wr=>s.length-posIn wr w.heap.size)
  case atStart=>exact⟨0,_,[],Nat.zero_le _,Nat.le_refl _,Scr.start w s,HZ,(Below.refl _ _).alloc (Nat.le_refl _) _⟩
  case round=>
   clear HZ;obtain⟨p,v,l,hp,hlp,hS,HP,hB⟩:=hrel;obtain⟨c0,c1,c2,hbl,f1,f2⟩:=hS.cells;have hpos:=hid hS.pos;have HS:=hid hS;clear hS;by_cases hpt:p<s.length
   ·have hpt':p<(str s).size:=by rw[HSZ.out];exact hpt
    have hd:=str_drop hpt';obtain⟨c,hcd⟩:∃c,c=(str s)[p]'hpt':=⟨_,rfl⟩;rw[← hcd]at hd;by_cases hc:c=32
    ·have hb:(((((str s)[p]'hpt').toNat:Nat):Int)==32)=true:=by rw[← hcd,hc];rfl
     have HN:Hid (Scn.pre l (fuelS (s.drop (p+1)) (p+1))=z):=by
      show _=_;rw[← HP.out,hd,hc,fuelS_blank]
     clear HP hd hcd hc;go_wp2_with fail;have h1:Scr (wr.setCell ⟨w.heap.size,1,none⟩ (.int .i64 ((p:Int)+1))) w.heap.size w.heap.size s (p+1) v l:=HS.out.step;refine⟨⟨p+1,v,l,by omega,by omega,h1,HN,hB.setCell (p:=⟨w.heap.size,1,none⟩) (Nat.le_refl _) _⟩,?_⟩;rw[h1.pos,hpos.out];omega
    ·have hb:(((((str s)[p]'hpt').toNat:Nat):Int)==32)=false:=by
      rw[← hcd,beq_eq_false_iff_ne];intro h;exact hc (UInt8.toNat_inj.1 (Int.ofNat.inj h))
     have hnext:=hid (lx_next w.heap.size w.heap.size s p v l wr HS.out hpt HL.out hlp c (s.drop (p+1)) hd);have hrl:=runOf_len c (s.drop (p+1));have hrl2:(c::s.drop (p+1)).length=s.length-p:=by rw[← hd,List.length_drop]
     rw[hrl2]at hrl;have HE:Hid (tokErr (kindOf c) (runOf (c::s.drop (p+1)))≠0→z= .inl (p,tokErr (kindOf c) (runOf (c::s.drop (p+1))))):=fun he=>by
      rw[← HP.out,hd,fuelS_err c _ p hc he];rfl
     have HT:Hid (tokErr (kindOf c) (runOf (c::s.drop (p+1)))=0→Scn.pre (l++[⟨kindOf c,runOf (c::s.drop (p+1)),p⟩]) (fuelS (s.drop (p+(runOf (c::s.drop (p+1))).length)) (p+(runOf (c::s.drop (p+1))).length))=z):=fun he=>by
      rw[← HP.out,hd,fuelS_tok c _ p hc he];have e:(c::s.drop (p+1)).drop (runOf (c::s.drop (p+1))).length=s.drop (p+(runOf (c::s.drop (p+1))).length):=by rw[← hd,List.drop_drop]
      rw[e];cases fuelS (s.drop (p+(runOf (c::s.drop (p+1))).length)) (p+(runOf (c::s.drop (p+1))).length)<;>simp[Scn.pre]
     generalize tokErr (kindOf c) (runOf (c::s.drop (p+1)))=er at*
     generalize kindOf c=kc at*
     generalize runOf (c::s.drop (p+1))=tx at*
     clear hrl2 hd hcd hc HP;by_cases her:er=0
     ·subst her
      have HT':=hid (HT.out rfl);clear HT HE;go_wp2_with fail;refine hnext.out.mono ?_;rintro e w1 ⟨rfl,hB1,_,t2⟩;obtain⟨v',h1⟩:=t2 (by trivial);go_simp;go_wp2_with fail;refine⟨⟨p+tx.length,v',l++[⟨kc,tx,p⟩],by omega,by simp;omega,h1,HT',hB.trans hB1⟩,?_⟩;rw[h1.pos,hpos.out];omega
     ·have hz:=HE.out her
      subst hz;go_wp2_with fail;refine hnext.out.mono ?_;rintro e w1 ⟨rfl,hB1,t1,_⟩;have h1:=t1 her;obtain⟨d0,d1,d2,dbl,_,_⟩:=h1.cells;clear h1 t1 hnext;have HBB:=hid (hB.trans hB1);clear hB hB1;go_simp;go_wp2_with fail;go_quiet (fail);go_wp2_with fail;go_ret3;exact⟨_,rfl,World.ownsRow_nil _ _ _ _,below_dN HBB.out _⟩
   ·have hpt':¬p<(str s).size:=by rw[HSZ.out];exact hpt
    have hpe:p=s.length:=by omega
    have HZ:Hid (z= .inr (l++[⟨3,[],p⟩])):=by
     show _=_;rw[← HP.out,hpe,List.drop_length];rfl
    have hs1:=HS.out.size;have hrow:=HS.out.row;obtain⟨va,vn,vc,rfl⟩:∃va vn vc,v= .slice va vn vc:=by
     obtain⟨a,cap,h1,_⟩:=owns_at hrow;exact⟨_,_,_,h1⟩
    have hsp:((str s).size:Int)=(p:Int):=by rw[HSZ.out,hpe]
    clear HP hpe;go_wp2_with (at_builtin;refine wpList_app3 wr rfl _ _ 234 rfl 307 Tryz.underToks Tryz.infoTok w.heap.size _ l hrow ⟨3,[],p⟩ wr.heap.size rfl rfl rfl (by have:=HL.out;omega) (by omega) ?_;intro v' w2 hown2 hgr2 hbk);go_ret3;rw[HZ.out];exact⟨_,rfl,hown2,below_grown hB hs1 hgr2 (fun q hq=>(hbk q hq).1) (Nat.le_refl _)⟩
theorem grown_trans {A B C:World}{r:Option Nat}(h:A.grownBy B r)(h2:B.grownBy C r):A.grownBy C r:=
 ⟨h2.os.trans h.os,h2.tape.trans h.tape,h2.output.trans h.output,Nat.le_trans h.size h2.size,fun k hk hr=>(h2.block k (Nat.lt_of_lt_of_le hk h.size) hr).trans (h.block k hk hr)⟩
theorem grown_of {w w':World}(h:Below w.heap.size w w')(r:Option Nat):w.grownBy w' r:=⟨h.os,h.tape,h.output,h.size,fun k hk _=>h.block k hk⟩
theorem below_of_grown {B:Nat}{W w w':World}{b:Nat}(hB:Below B W w)(hg:w.grownBy w' (some b))(hs:B≤w.heap.size)(hb:B≤b):Below B W w':=hB.grown hg hs (fun k e=>by cases e;exact hb)
def TsOk (l:List Tok):Prop:=0<l.length∧l.length≤4097∧(l[l.length-1]?.getD default).kind=3∧∀t∈l,t.text.length≤4096
theorem TsOk.two {l:List Tok}(h:TsOk l)(h3:(l[0]?.getD default).kind≠3):2≤l.length:=by
 obtain⟨h1,_,h2,_⟩:=h;by_cases e:l.length=1
 ·rw[e]at h2;exact absurd h2 h3
 ·omega
theorem TsOk.drop {l:List Tok}(h:TsOk l)(h3:(l[0]?.getD default).kind≠3):TsOk (l.drop 1):=by
 have h2:=h.two h3;obtain⟨_,hl,he,ht⟩:=h;refine⟨by simp;omega,by simp;omega,?_,fun t h=>ht t (List.mem_of_mem_drop h)⟩;rw[List.getElem?_drop,List.length_drop,show 1+(l.length-1-1)=l.length-1 by omega];exact he
theorem TsOk.text {l:List Tok}(h:TsOk l)(k:Nat):(l[k]?.getD default).text.length≤4096:=by
 by_cases hk:k<l.length
 ·rw[List.getElem?_eq_getElem hk];exact h.2.2.2 _ (List.getElem_mem hk)
 ·rw[List.getElem?_eq_none (by omega)];decide
theorem ToksR.grown {w w':World}{a:Option Addr}{n cap b:Nat}{l:List Tok}(h:ToksR w (.slice a n cap) l)(hg:w.grownBy w' (some b))(hne:∀x,a=some x→x.block≠b):ToksR w' (.slice a n cap) l:=by
 obtain⟨a',cap',e,h2,h3,h4,h5⟩:=h;injection e with e1 e2 e3
 subst e1 e2 e3;refine⟨a,_,rfl,h2,h3,h4,?_⟩;rcases h5 with h5|⟨tb,off,rfl,hl,hc⟩
 ·exact .inl h5
 ·refine .inr ⟨tb,off,rfl,Nat.lt_of_lt_of_le hl hg.size,fun i hi=> ?_⟩
  rw[World.cell?_of_block (hg.block tb hl (by have:=hne _ rfl;simpa using this))];exact hc i hi
def Tk (w:World)(b tb:Nat)(T:TypeId)(rest:List Value)(s:Rs):Prop:=
 TsOk s.ts∧∃off cap,Blk w b (Value.slice (some ⟨tb,off,none⟩) s.ts.length cap::Value.int .i64 s.e::Value.int .i64 s.pl::rest).toArray T∧tb≠b∧ToksR w (.slice (some ⟨tb,off,none⟩) s.ts.length cap) s.ts
theorem Tk.lt {w:World}{b tb:Nat}{T:TypeId}{rest:List Value}{s:Rs}(h:Tk w b tb T rest s):b<w.heap.size:=by obtain⟨_,_,_,hb,_⟩:=h;exact hb.lt
theorem Tk.below {w w':World}{b tb:Nat}{T:TypeId}{rest:List Value}{s:Rs}(h:Tk w b tb T rest s)(hB:Below w.heap.size w w'):Tk w' b tb T rest s:=by
 obtain⟨h0,off,cap,hb,hne,ht⟩:=h;exact⟨h0,off,cap,hb.below hB,hne,ht.below hB⟩
theorem Tk.cells {w:World}{b tb:Nat}{T:TypeId}{rest:List Value}{s:Rs}(h:Tk w b tb T rest s):
 ∃off cap,tb<w.heap.size∧tb≠b∧0<s.ts.length∧s.ts.length≤cap∧cap≤9223372036854775807∧w.cell? ⟨b,0,none⟩=some (.slice (some ⟨tb,off,none⟩) s.ts.length cap)∧w.cell? ⟨b,1,none⟩=some (.int .i64 s.e)∧w.cell? ⟨b,2,none⟩=some (.int .i64 s.pl)∧
  w.cell? ⟨tb,off,none⟩=some (.int .i64 s.now.kind)∧w.cell? ⟨tb,off+1,none⟩=some (.string (str s.now.text))∧w.cell? ⟨tb,off+2,none⟩=some (.int .i64 s.now.pos)∧(∀ k,w.frozen? ⟨b,k,none⟩=false):=by
 obtain⟨h0,off,cap,hb,hne,ht⟩:=h;obtain⟨a',cap',e,h2,h3,h4,h5⟩:=ht;injection e with e1 e2 e3
 subst e1 e3;obtain⟨b',off',e,hlt,hc⟩:=h5.tok h0.1;obtain⟨rfl,rfl⟩:tb=b'∧off=off':=by simpa using e
 obtain⟨c0,c1,c2⟩:=hc 0 h0.1;have d0:=hb.cell 0;have d1:=hb.cell 1;have d2:=hb.cell 2;simp only[xG,xH,xI]at d0 d1 d2;rw[Nat.zero_mul,Nat.add_zero]at c0 c1 c2;exact⟨off,cap,hlt,hne,h0.1,h2,h3,d0,d1,d2,c0,c1,c2,fun k=>hb.frozen k⟩
theorem t_now (w:World)(b tb:Nat)(T:TypeId)(rest:List Value)(s:Rs)(h:Tk w b tb T rest s):
 Calls Tryz.prog 293 #[.pointer (some ⟨b,0,none⟩)] w fun e w'=>e= .returned (.agg #[.int .i64 s.now.kind,.string (str s.now.text),.int .i64 s.now.pos])∧Below w.heap.size w w':=by
 obtain⟨off,cap,hlt,hne,h0,h2,h3,d0,d1,d2,c0,c1,c2,hf⟩:=h.cells;have hbl:=h.lt;generalize s.now=t at*
 generalize s.ts.length=n at*
 have hn0:(0:Int)<(n:Int):=by omega
 clear d1 d2 hf h;go_enter Tryz.func293,Tryz.ntmps293;go_wp2;refine bodyPost_ret (results_cell1' rfl rfl (load_tok (cell_new3 _ _ _ _ _).1 (cell_new3 _ _ _ _ _).2.1 (cell_new3 _ _ _ _ _).2.2)) rfl ?_;exact⟨rfl,by go_grown⟩
theorem Tk.set1 {w:World}{b tb:Nat}{T:TypeId}{rest:List Value}{s:Rs}(h:Tk w b tb T rest s)(k:Int):Tk (w.setCell ⟨b,1,none⟩ (.int .i64 k)) b tb T rest ⟨s.ts,k,s.pl⟩:=by
 obtain⟨h0,off,cap,hb,hne,ht⟩:=h;refine⟨h0,off,cap,?_,hne,ht.grown (grown_set _ _ _ _) (fun x hx=>by cases hx;exact hne)⟩;have:=hb.set 1 (.int .i64 k);simpa only[xM,xJ,xK]using this
theorem Tk.set2 {w:World}{b tb:Nat}{T:TypeId}{rest:List Value}{s:Rs}(h:Tk w b tb T rest s)(k:Int):Tk (w.setCell ⟨b,2,none⟩ (.int .i64 k)) b tb T rest ⟨s.ts,s.e,k⟩:=by
 obtain⟨h0,off,cap,hb,hne,ht⟩:=h;refine⟨h0,off,cap,?_,hne,ht.grown (grown_set _ _ _ _) (fun x hx=>by cases hx;exact hne)⟩;have:=hb.set 2 (.int .i64 k);simpa only[xM,xJ,xK]using this
theorem ToksR.tail {w:World}{tb off cap:Nat}{l:List Tok}(h:ToksR w (.slice (some ⟨tb,off,none⟩) l.length cap) l)(k:Nat)(hk:k<l.length):ToksR w (.slice (some ⟨tb,off+k*3,none⟩) (l.length-k) (cap-k)) (l.drop k):=by
 obtain⟨a',cap',e,h2,h3,h4,h5⟩:=h;injection e with e1 e2 e3
 subst e1 e3;refine⟨_,_,by rw[List.length_drop],by rw[List.length_drop];omega,by omega,by rw[List.length_drop];omega,?_⟩;rcases h5 with h5|⟨b',off',e,hlt,hc⟩
 ·have:=tokCells_length l;rw[h5]at this;simp at this;omega
 ·obtain⟨rfl,rfl⟩:tb=b'∧off=off':=by simpa using e
  refine .inr ⟨tb,_,rfl,hlt,fun i hi=> ?_⟩;have e1:tokCells l=tokCells (l.take k)++tokCells (l.drop k):=by unfold tokCells;rw[← List.flatMap_append,List.take_append_drop]
  have e2:=tokCells_length (l.take k);have e3:=tokCells_length l;have e4:=tokCells_length (l.drop k);rw[List.length_take,Nat.min_eq_left (by omega)]at e2;rw[List.length_drop]at e4;rw[Nat.add_assoc,hc (k*3+i) (by omega),e1,List.getElem?_append_right (by omega),e2];congr 1;omega
theorem Tk.set0 {w:World}{b tb:Nat}{T:TypeId}{rest:List Value}{s:Rs}{off cap:Nat}(h:Tk w b tb T rest s)(hc:w.cell? ⟨b,0,none⟩=some (.slice (some ⟨tb,off,none⟩) s.ts.length cap))(k:Nat)(hk:TsOk (s.ts.drop k)):
 Tk (w.setCell ⟨b,0,none⟩ (.slice (some ⟨tb,off+k*3,none⟩) (s.ts.length-k) (cap-k))) b tb T rest ⟨s.ts.drop k,s.e,s.pl⟩:=by
 obtain⟨h0,off',cap',hb,hne,ht⟩:=h;have d0:=hb.cell 0;simp only[xG,xH]at d0;rw[hc]at d0;injection d0 with d0
 injection d0 with d0 _ d1
 obtain rfl:off=off':=by simpa using d0
 subst d1;have hkl:k<s.ts.length:=by have:=hk.1;rw[List.length_drop]at this;omega
 have hb2:=hb.set 0 (.slice (some ⟨tb,off+k*3,none⟩) (s.ts.length-k) (cap-k));simp only[xM,xJ,xK]at hb2;have ht2:=(ht.tail k hkl).grown (grown_set w b 0 (.slice (some ⟨tb,off+k*3,none⟩) (s.ts.length-k) (cap-k))) (fun x hx=>by cases hx;exact hne);exact⟨hk,off+k*3,cap-k,by rw[List.length_drop];exact hb2,hne,by rw[List.length_drop];exact ht2⟩
theorem t_fail (w:World)(b tb:Nat)(T:TypeId)(rest:List Value)(s:Rs)(h:Tk w b tb T rest s)(k p:Int):
 Calls Tryz.prog 237 #[.pointer (some ⟨b,0,none⟩),.int .i64 k,.int .i64 p] w fun e w'=>e= .returned (.tuple #[])∧Tk w' b tb T rest (s.fail k p)∧w.grownBy w' (some b):=by
 obtain⟨off,cap,hlt,hne,h0,h2,h3,d0,d1,d2,c0,c1,c2,hf⟩:=h.cells;have hbl:=h.lt;have f1:=hf 1;have f2:=hf 2;have HT:=hid h;by_cases he:s.e=0
 ·have HR:Hid (Tk ((w.setCell ⟨b,1,none⟩ (.int .i64 k)).setCell ⟨b,2,none⟩ (.int .i64 p)) b tb T rest (s.fail k p)):=by
   have:=(h.set1 k).set2 p;unfold Rs.fail;rw[if_pos he];exact this
  rw[he]at d1;clear h0 h2 h3 d0 c0 c1 c2 hf h he;go_enter Tryz.func237,Tryz.ntmps237;go_wp2;go_end0;exact⟨rfl,HR.out,grown_trans (grown_set _ _ _ _) (grown_set _ _ _ _)⟩
 ·have HR:Hid (Tk w b tb T rest (s.fail k p)):=by
   unfold Rs.fail;rw[if_neg he];exact h
  have he1:(s.e==0)=false:=by simpa using he
  generalize s.e=z at*
  clear h0 h2 h3 d0 c0 c1 c2 hf h he;go_enter Tryz.func237,Tryz.ntmps237;go_wp2;go_end0;exact⟨rfl,HR.out,World.grownBy.refl _ _⟩
theorem t_skip (w:World)(b tb:Nat)(T:TypeId)(rest:List Value)(s:Rs)(h:Tk w b tb T rest s)(h3:s.now.kind≠3):
 Calls Tryz.prog 294 #[.pointer (some ⟨b,0,none⟩)] w fun e w'=>e= .returned (.tuple #[])∧Tk w' b tb T rest s.skip∧w.grownBy w' (some b):=by
 have hok:=h.1;have h2l:=hok.two h3;have hdr:=hok.drop h3;obtain⟨off,cap,hlt,hne,h0,h2,h3',d0,d1,d2,c0,c1,c2,hf⟩:=h.cells;have hbl:=h.lt;have f0:=hf 0;have HR:=hid (h.set0 d0 1 hdr);unfold Rs.skip;generalize s.ts.length=n at*
 have hc1:¬cap=1:=by omega
 have hn1:(1:Int)≤(n:Int):=by omega
 have hn2:1≤n:=by omega
 have hnc:(n:Int)≤(cap:Int):=by omega
 rw[Nat.one_mul]at HR;clear h0 d1 d2 c0 c1 c2 hf h hok h3 hdr;go_enter Tryz.func294,Tryz.ntmps294;go_wp2;go_end0;exact⟨rfl,HR.out,grown_set _ _ _ _⟩
theorem tok_kind (a:Int)(t:ByteArray)(p:Int)(w:World):(Instr.field 307 (.agg #[.int .i64 a,.string t,.int .i64 p]) 0).run Tryz.prog w= .ok (.int .i64 a) w:=by kernel_rfl
theorem tok_text (a:Int)(t:ByteArray)(p:Int)(w:World):(Instr.field 307 (.agg #[.int .i64 a,.string t,.int .i64 p]) 1).run Tryz.prog w= .ok (.string t) w:=by kernel_rfl
theorem tok_pos (a:Int)(t:ByteArray)(p:Int)(w:World):(Instr.field 307 (.agg #[.int .i64 a,.string t,.int .i64 p]) 2).run Tryz.prog w= .ok (.int .i64 p) w:=by kernel_rfl
theorem str_eql (a b:List UInt8):((str a).toList==(str b).toList)=decide (a=b):=by
 rw[ByteArray.toList_eq,ByteArray.toList_eq,str_data,str_data];by_cases h:a=b<;>simp[h]
theorem t_more (w:World)(b tb:Nat)(T:TypeId)(rest:List Value)(s:Rs)(h:Tk w b tb T rest s):
 Calls Tryz.prog 231 #[.pointer (some ⟨b,0,none⟩)] w fun e w'=>e= .returned (.bool s.more)∧Below w.heap.size w w':=by
 obtain⟨off,cap,hlt,hne,h0,h2,h3,d0,d1,d2,c0,c1,c2,hf⟩:=h.cells;have hbl:=h.lt;have HN:=hid (t_now w b tb T rest s h);clear d0 d2 c0 c1 c2 hf h h0 h2 h3;by_cases he:s.e=0
 ·rw[he]at d1
  by_cases hk:s.now.kind=3
  ·have hz:=hid (show s.more=false by unfold Rs.more;rw[hk];simp)
   have HN2:Hid (Calls Tryz.prog 293 #[.pointer (some ⟨b,0,none⟩)] w fun e w'=>e= .returned (.agg #[.int .i64 3,.string (str s.now.text),.int .i64 s.now.pos])∧Below w.heap.size w w'):=by have:=HN.out;rw[hk]at this;exact this
   clear HN hk he;have q0:=tok_kind;have q1:=tok_text;have q2:=tok_pos;go_enter Tryz.func231,Tryz.ntmps231;go_wp2_with fail;refine HN2.out.mono ?_;rintro e w1 ⟨rfl,hB⟩;dsimp only;go_wp2_with fail;go_ret;exact⟨ret_bool hz.out.symm,hB⟩
  ·have hz:=hid (show s.more=true by unfold Rs.more;simp[he,hk])
   have hkb:(s.now.kind !=3)=true:=by simpa using hk
   generalize s.now.kind=kk at*
   clear hk he;have q0:=tok_kind;have q1:=tok_text;have q2:=tok_pos;go_enter Tryz.func231,Tryz.ntmps231;go_wp2_with fail;refine HN.out.mono ?_;rintro e w1 ⟨rfl,hB⟩;dsimp only;go_wp2_with fail;go_ret;exact⟨ret_bool hz.out.symm,hB⟩
 ·have hz:=hid (show s.more=false by unfold Rs.more;simp[he])
  have he1:(s.e==0)=false:=by simpa using he
  generalize s.e=z at*
  clear HN he;have q0:=tok_kind;have q1:=tok_text;have q2:=tok_pos;go_enter Tryz.func231,Tryz.ntmps231;go_wp2_with fail;go_ret;exact⟨ret_bool hz.out.symm,Below.refl _ _⟩
theorem t_is (w:World)(b tb:Nat)(T:TypeId)(rest:List Value)(s:Rs)(h:Tk w b tb T rest s)(t:List UInt8):
 Calls Tryz.prog 292 #[.pointer (some ⟨b,0,none⟩),.string (str t)] w fun e w'=>e= .returned (.bool (s.is t))∧Below w.heap.size w w':=by
 obtain⟨off,cap,hlt,hne,h0,h2,h3,d0,d1,d2,c0,c1,c2,hf⟩:=h.cells;have hbl:=h.lt;have HN:=hid (t_now w b tb T rest s h);have HN':=hid (fun (w1:World) (hB:Below w.heap.size w w1)=>t_now w1 b tb T rest s (h.below hB));clear d0 d2 c0 c1 c2 hf h h0 h2 h3;by_cases he:s.e=0
 ·rw[he]at d1
  by_cases hk:s.now.kind=3
  ·have hz:=hid (show s.is t=false by unfold Rs.is Rs.more;rw[hk];simp)
   have HN2:Hid (Calls Tryz.prog 293 #[.pointer (some ⟨b,0,none⟩)] w fun e w'=>e= .returned (.agg #[.int .i64 3,.string (str s.now.text),.int .i64 s.now.pos])∧Below w.heap.size w w'):=by have:=HN.out;rw[hk]at this;exact this
   clear HN HN' hk he;have q0:=tok_kind;have q1:=tok_text;have q2:=tok_pos;go_enter Tryz.func292,Tryz.ntmps292;go_wp2_with fail;refine HN2.out.mono ?_;rintro e w1 ⟨rfl,hB⟩;dsimp only;go_wp2_with fail;go_ret;exact⟨ret_bool hz.out.symm,hB⟩
  ·have hz:=hid (show s.is t=decide (s.now.text=t) by unfold Rs.is Rs.more;simp[he,hk])
   have hkb:(s.now.kind !=3)=true:=by simpa using hk
   have hse:=str_eql s.now.text t;have HSE:=hid hse;generalize s.now.kind=kk at*
   clear hk he hse;have q0:=tok_kind;have q1:=tok_text;have q2:=tok_pos;go_enter Tryz.func292,Tryz.ntmps292;go_wp2_with fail;refine HN.out.mono ?_;rintro e w1 ⟨rfl,hB⟩;have HB:=hid hB;clear hB;dsimp only;go_wp2_with fail;refine(HN'.out w1 HB.out).mono ?_;rintro e w2 ⟨rfl,hB2⟩;have hse:=HSE.out;dsimp only;go_wp2_with fail;go_ret;exact⟨ret_bool hz.out.symm,up HB.out hB2⟩
 ·have hz:=hid (show s.is t=false by unfold Rs.is Rs.more;simp[he])
  have he1:(s.e==0)=false:=by simpa using he
  generalize s.e=z at*
  clear HN he;have q0:=tok_kind;have q1:=tok_text;have q2:=tok_pos;go_enter Tryz.func292,Tryz.ntmps292;go_wp2_with fail;go_ret;exact⟨ret_bool hz.out.symm,Below.refl _ _⟩
theorem Rs.is_kind {s:Rs}{t:List UInt8}(h:s.is t=true):s.now.kind≠3∧s.e=0∧s.now.text=t:=by
 unfold Rs.is Rs.more at h;simp at h;exact⟨h.1.2,h.1.1,h.2⟩
theorem t_need (w:World)(b tb:Nat)(T:TypeId)(rest:List Value)(s:Rs)(h:Tk w b tb T rest s)(t:List UInt8):
 Calls Tryz.prog 229 #[.pointer (some ⟨b,0,none⟩),.string (str t)] w fun e w'=>e= .returned (.tuple #[])∧Tk w' b tb T rest (s.need t)∧w.grownBy w' (some b):=by
 have HI:=hid (t_is w b tb T rest s h t);have hT:=hid h;have hbl:=h.lt;unfold Rs.need;cases hi:s.is t with
 |true=>
  have HK:=hid (Rs.is_kind hi).1
  rw[hi]at HI
  clear hi h
  rw[if_pos rfl]
  have q0:=tok_kind
  have q1:=tok_text
  have q2:=tok_pos
  go_enter Tryz.func229,Tryz.ntmps229
  go_wp2_with fail
  refine HI.out.mono ?_
  rintro e w1 ⟨rfl,hB⟩
  have HB:=hid hB
  clear hB
  dsimp only
  go_wp2_with fail
  refine(t_skip w1 b tb T rest s (hT.out.below HB.out) HK.out).mono ?_
  rintro e w2 ⟨rfl,hT2,hg⟩
  dsimp only
  go_wp2_with fail
  go_end0
  exact⟨rfl,hT2,grown_trans (grown_of HB.out _) hg⟩
 |false=>
  rw[hi]at HI
  clear hi h
  rw[if_neg (by decide)]
  have q0:=tok_kind
  have q1:=tok_text
  have q2:=tok_pos
  go_enter Tryz.func229,Tryz.ntmps229
  go_wp2_with fail
  refine HI.out.mono ?_
  rintro e w1 ⟨rfl,hB⟩
  have HB:=hid hB
  clear hB
  dsimp only
  go_wp2_with fail
  refine(t_now w1 b tb T rest s (hT.out.below HB.out)).mono ?_
  rintro e w2 ⟨rfl,hB2⟩
  have HB2:=hid (up HB.out hB2)
  clear hB2
  dsimp only
  go_wp2_with fail
  refine(t_fail w2 b tb T rest s (hT.out.below HB2.out) 4 s.now.pos).mono ?_
  rintro e w3 ⟨rfl,hT3,hg⟩
  dsimp only
  go_wp2_with fail
  refine bodyPost_ret (results_none rfl _ _ _) rfl ?_
  exact⟨rfl,hT3,grown_trans (grown_of HB2.out _) hg⟩
end Go.Proofs.YtclgllmipcbagaaGreatDoor
