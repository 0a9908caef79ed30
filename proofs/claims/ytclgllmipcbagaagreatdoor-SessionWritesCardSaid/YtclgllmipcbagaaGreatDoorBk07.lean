/-
  Parts of the proof: XNL XK1 XK2 XKA XN0 XK4
-/
import Derived.Test.YtclgllmipcbagaaGreatDoorProg
import Derived.Shelf.Strconv.AtoiAll
import Derived.Shelf.Strconv.Itoa3
import Derived.WalkSpells
import Derived.WalkLawsBesides
import Derived.ChangeMaps5
import Derived.Test.YtclgllmipcbagaaGreatDoorBk01
import Derived.Test.YtclgllmipcbagaaGreatDoorBk00
import Derived.Shelf.Small.Wraps
import Derived.Shelf.Strconv.Atoi
import Derived.Lib.ItoaNum
import Derived.Laws.EntriesVeiled
namespace Go.Proofs.YtclgllmipcbagaaGreatDoor
open Go.RowKit
set_option linter.unusedVariables false
set_option linter.unusedSimpArgs false
set_option maxRecDepth 100000
set_option maxHeartbeats 16000000
def renN:Go.Shelf.Ren:=⟨fun|129=>311|171=>83|172=>178|205=>351|243=>132|244=>239|245=>240|246=>184|247=>300|279=>301|280=>302|281=>303|282=>304|283=>248|284=>249|285=>250|286=>251|287=>349|316=>350|317=>310|318=>312|319=>313|320=>314|321=>383|322=>384|337=>357|338=>358|n=>n,fun|0=>0|2=>2|3=>3|4=>4|5=>5|9=>9|20=>20|21=>21|37=>122|46=>320|51=>378|53=>315|75=>135|76=>136|80=>116|85=>366|127=>188|143=>439|145=>441|167=>365|168=>368|171=>314|173=>318|175=>405|210=>408|212=>377|213=>379|232=>442|233=>443|n=>n,fun|15=>2|16=>3|17=>0|18=>6|19=>7|n=>n⟩
theorem nlay172:Go.Proofs.Lays.n172 Tryz.prog renN:=
 {mixed:=by kernel_rfl,
  f129:=by kernel_rfl,
  f171:=by kernel_rfl,
  f172:=by kernel_rfl,
  f205:=by kernel_rfl,
  f243:=by kernel_rfl,
  f244:=by kernel_rfl,
  f245:=by kernel_rfl,
  f246:=by kernel_rfl,
  f247:=by kernel_rfl,
  f279:=by kernel_rfl,
  f280:=by kernel_rfl,
  f281:=by kernel_rfl,
  f282:=by kernel_rfl,
  f283:=by kernel_rfl,
  f284:=by kernel_rfl,
  f285:=by kernel_rfl,
  f286:=by kernel_rfl,
  f287:=by kernel_rfl,
  f316:=by kernel_rfl,
  f317:=by kernel_rfl,
  f318:=by kernel_rfl,
  f319:=by kernel_rfl,
  f320:=by kernel_rfl,
  f321:=by kernel_rfl,
  f322:=by kernel_rfl,
  f337:=by kernel_rfl,
  f338:=by kernel_rfl,
  t0:=by kernel_rfl,
  a0:=fun _=>by kernel_rfl,
  z0:=fun _=>by kernel_rfl,
  v0:=fun _=>by kernel_rfl,
  t2:=by kernel_rfl,
  a2:=fun _=>by kernel_rfl,
  z2:=fun _=>by kernel_rfl,
  v2:=fun _=>by kernel_rfl,
  t3:=by kernel_rfl,
  a3:=fun _=>by kernel_rfl,
  z3:=fun _=>by kernel_rfl,
  v3:=fun _=>by kernel_rfl,
  t4:=by kernel_rfl,
  a4:=fun _=>by kernel_rfl,
  z4:=fun _=>by kernel_rfl,
  v4:=fun _=>by kernel_rfl,
  t5:=by kernel_rfl,
  a5:=fun _=>by kernel_rfl,
  z5:=fun _=>by kernel_rfl,
  v5:=fun _=>by kernel_rfl,
  t9:=by kernel_rfl,
  a9:=fun _=>by kernel_rfl,
  z9:=fun _=>by kernel_rfl,
  v9:=fun _=>by kernel_rfl,
  t20:=by kernel_rfl,
  a20:=fun _=>by kernel_rfl,
  z20:=fun _=>by kernel_rfl,
  v20:=fun _=>by kernel_rfl,
  t21:=by kernel_rfl,
  a21:=fun _=>by kernel_rfl,
  z21:=fun _=>by kernel_rfl,
  v21:=fun _=>by kernel_rfl,
  t37:=by kernel_rfl,
  a37:=fun _=>by kernel_rfl,
  z37:=fun _=>by kernel_rfl,
  v37:=fun _=>by kernel_rfl,
  t46:=by kernel_rfl,
  a46:=fun _=>by kernel_rfl,
  z46:=fun _=>by kernel_rfl,
  v46:=fun _=>by kernel_rfl,
  t51:=by kernel_rfl,
  a51:=fun _=>by kernel_rfl,
  z51:=fun _=>by kernel_rfl,
  v51:=fun _=>by kernel_rfl,
  t53:=by kernel_rfl,
  a53:=fun _=>by kernel_rfl,
  z53:=fun _=>by kernel_rfl,
  v53:=fun _=>by kernel_rfl,
  t75:=by kernel_rfl,
  a75:=fun _=>by kernel_rfl,
  z75:=fun _=>by kernel_rfl,
  v75:=fun _=>by kernel_rfl,
  t76:=by kernel_rfl,
  a76:=fun _=>by kernel_rfl,
  z76:=fun _=>by kernel_rfl,
  v76:=fun _=>by kernel_rfl,
  t85:=by kernel_rfl,
  a85:=fun _=>by kernel_rfl,
  z85:=fun _=>by kernel_rfl,
  v85:=fun _=>by kernel_rfl,
  t127:=by kernel_rfl,
  a127:=fun _=>by kernel_rfl,
  z127:=fun _=>by kernel_rfl,
  v127:=fun _=>by kernel_rfl,
  t143:=by kernel_rfl,
  a143:=fun _=>by kernel_rfl,
  z143:=fun _=>by kernel_rfl,
  v143:=fun _=>by kernel_rfl,
  t145:=by kernel_rfl,
  a145:=fun _=>by kernel_rfl,
  z145:=fun _=>by kernel_rfl,
  v145:=fun _=>by kernel_rfl,
  t167:=by kernel_rfl,
  a167:=fun _=>by kernel_rfl,
  z167:=fun _=>by kernel_rfl,
  v167:=fun _=>by kernel_rfl,
  t168:=by kernel_rfl,
  a168:=fun _=>by kernel_rfl,
  z168:=fun _=>by kernel_rfl,
  v168:=fun _=>by kernel_rfl,
  t171:=by kernel_rfl,
  a171:=fun _=>by kernel_rfl,
  z171:=fun _=>by kernel_rfl,
  v171:=fun _=>by kernel_rfl,
  t173:=by kernel_rfl,
  a173:=fun _=>by kernel_rfl,
  z173:=fun _=>by kernel_rfl,
  v173:=fun _=>by kernel_rfl,
  t175:=by kernel_rfl,
  a175:=fun _=>by kernel_rfl,
  z175:=fun _=>by kernel_rfl,
  v175:=fun _=>by kernel_rfl,
  t210:=by kernel_rfl,
  a210:=fun _=>by kernel_rfl,
  z210:=fun _=>by kernel_rfl,
  v210:=fun _=>by kernel_rfl,
  t212:=by kernel_rfl,
  a212:=fun _=>by kernel_rfl,
  z212:=fun _=>by kernel_rfl,
  v212:=fun _=>by kernel_rfl,
  t213:=by kernel_rfl,
  a213:=fun _=>by kernel_rfl,
  z213:=fun _=>by kernel_rfl,
  t232:=by kernel_rfl,
  a232:=fun _=>by kernel_rfl,
  z232:=fun _=>by kernel_rfl,
  v232:=fun _=>by kernel_rfl,
  t233:=by kernel_rfl,
  a233:=fun _=>by kernel_rfl,
  z233:=fun _=>by kernel_rfl,
  v233:=fun _=>by kernel_rfl,
  g15:=by kernel_rfl,
  g16:=by kernel_rfl,
  g17:=by kernel_rfl,
  g18:=by kernel_rfl,
  g19:=by kernel_rfl}
theorem nlayM172:Go.Proofs.LaysM.n172 Tryz.prog renN:=
 {ton172:=nlay172,
  t80:=by kernel_rfl,
  a80:=fun _=>by kernel_rfl,
  z80:=fun _=>by kernel_rfl,
  v80:=fun _=>by kernel_rfl,
  i0:=by kernel_rfl,
  i2:=by kernel_rfl,
  i3:=by kernel_rfl,
  i4:=by kernel_rfl,
  i5:=by kernel_rfl,
  i9:=by kernel_rfl,
  i20:=by kernel_rfl,
  i21:=by kernel_rfl,
  i37:=by kernel_rfl,
  i46:=by kernel_rfl,
  i51:=by kernel_rfl,
  i53:=by kernel_rfl,
  i75:=by kernel_rfl,
  i76:=by kernel_rfl,
  i80:=by kernel_rfl,
  i85:=by kernel_rfl,
  i127:=by kernel_rfl,
  i143:=by kernel_rfl,
  i145:=by kernel_rfl,
  i167:=by kernel_rfl,
  i168:=by kernel_rfl,
  i171:=by kernel_rfl,
  i173:=by kernel_rfl,
  i175:=by kernel_rfl,
  i210:=by kernel_rfl,
  i212:=by kernel_rfl,
  i232:=by kernel_rfl,
  i233:=by kernel_rfl,
  m15:=by kernel_rfl,
  m16:=by kernel_rfl,
  m17:=by kernel_rfl,
  m18:=by kernel_rfl,
  m19:=by kernel_rfl}
theorem nlayC172:Go.Proofs.LaysC.n172 Tryz.prog renN:=
 {toM:=nlayM172,
  c0:=by kernel_rfl,
  c2:=by kernel_rfl,
  c3:=by kernel_rfl,
  c4:=by kernel_rfl,
  c5:=by kernel_rfl,
  c9:=by kernel_rfl,
  c20:=by kernel_rfl,
  c21:=by kernel_rfl,
  c37:=by kernel_rfl,
  c46:=by kernel_rfl,
  c51:=by kernel_rfl,
  c53:=by kernel_rfl,
  c75:=by kernel_rfl,
  c76:=by kernel_rfl,
  c80:=by kernel_rfl,
  c85:=by kernel_rfl,
  c127:=by kernel_rfl,
  c143:=by kernel_rfl,
  c145:=by kernel_rfl,
  c167:=by kernel_rfl,
  c168:=by kernel_rfl,
  c171:=by kernel_rfl,
  c173:=by kernel_rfl,
  c175:=by kernel_rfl,
  c210:=by kernel_rfl,
  c212:=by kernel_rfl,
  c213:=by kernel_rfl,
  c232:=by kernel_rfl,
  c233:=by kernel_rfl}
theorem nlay171:Go.Proofs.Lays.n171 Tryz.prog renN:=
 {mixed:=by kernel_rfl,
  f129:=by kernel_rfl,
  f171:=by kernel_rfl,
  f243:=by kernel_rfl,
  f246:=by kernel_rfl,
  f283:=by kernel_rfl,
  f284:=by kernel_rfl,
  f285:=by kernel_rfl,
  f286:=by kernel_rfl,
  f317:=by kernel_rfl,
  f318:=by kernel_rfl,
  f319:=by kernel_rfl,
  f320:=by kernel_rfl,
  f337:=by kernel_rfl,
  f338:=by kernel_rfl,
  t0:=by kernel_rfl,
  a0:=fun _=>by kernel_rfl,
  z0:=fun _=>by kernel_rfl,
  v0:=fun _=>by kernel_rfl,
  t2:=by kernel_rfl,
  a2:=fun _=>by kernel_rfl,
  z2:=fun _=>by kernel_rfl,
  v2:=fun _=>by kernel_rfl,
  t3:=by kernel_rfl,
  a3:=fun _=>by kernel_rfl,
  z3:=fun _=>by kernel_rfl,
  v3:=fun _=>by kernel_rfl,
  t4:=by kernel_rfl,
  a4:=fun _=>by kernel_rfl,
  z4:=fun _=>by kernel_rfl,
  v4:=fun _=>by kernel_rfl,
  t5:=by kernel_rfl,
  a5:=fun _=>by kernel_rfl,
  z5:=fun _=>by kernel_rfl,
  v5:=fun _=>by kernel_rfl,
  t9:=by kernel_rfl,
  a9:=fun _=>by kernel_rfl,
  z9:=fun _=>by kernel_rfl,
  v9:=fun _=>by kernel_rfl,
  t20:=by kernel_rfl,
  a20:=fun _=>by kernel_rfl,
  z20:=fun _=>by kernel_rfl,
  v20:=fun _=>by kernel_rfl,
  t37:=by kernel_rfl,
  a37:=fun _=>by kernel_rfl,
  z37:=fun _=>by kernel_rfl,
  v37:=fun _=>by kernel_rfl,
  t46:=by kernel_rfl,
  a46:=fun _=>by kernel_rfl,
  z46:=fun _=>by kernel_rfl,
  v46:=fun _=>by kernel_rfl,
  t51:=by kernel_rfl,
  a51:=fun _=>by kernel_rfl,
  z51:=fun _=>by kernel_rfl,
  v51:=fun _=>by kernel_rfl,
  t53:=by kernel_rfl,
  a53:=fun _=>by kernel_rfl,
  z53:=fun _=>by kernel_rfl,
  v53:=fun _=>by kernel_rfl,
  t171:=by kernel_rfl,
  a171:=fun _=>by kernel_rfl,
  z171:=fun _=>by kernel_rfl,
  v171:=fun _=>by kernel_rfl,
  t173:=by kernel_rfl,
  a173:=fun _=>by kernel_rfl,
  z173:=fun _=>by kernel_rfl,
  v173:=fun _=>by kernel_rfl,
  t212:=by kernel_rfl,
  a212:=fun _=>by kernel_rfl,
  z212:=fun _=>by kernel_rfl,
  v212:=fun _=>by kernel_rfl,
  t213:=by kernel_rfl,
  a213:=fun _=>by kernel_rfl,
  z213:=fun _=>by kernel_rfl,
  t232:=by kernel_rfl,
  a232:=fun _=>by kernel_rfl,
  z232:=fun _=>by kernel_rfl,
  v232:=fun _=>by kernel_rfl,
  t233:=by kernel_rfl,
  a233:=fun _=>by kernel_rfl,
  z233:=fun _=>by kernel_rfl,
  v233:=fun _=>by kernel_rfl,
  g17:=by kernel_rfl,
  g18:=by kernel_rfl,
  g19:=by kernel_rfl}
theorem nlayM171:Go.Proofs.LaysM.n171 Tryz.prog renN:=
 {ton171:=nlay171,
  i0:=by kernel_rfl,
  i2:=by kernel_rfl,
  i3:=by kernel_rfl,
  i4:=by kernel_rfl,
  i5:=by kernel_rfl,
  i9:=by kernel_rfl,
  i20:=by kernel_rfl,
  i37:=by kernel_rfl,
  i46:=by kernel_rfl,
  i51:=by kernel_rfl,
  i53:=by kernel_rfl,
  i171:=by kernel_rfl,
  i173:=by kernel_rfl,
  i212:=by kernel_rfl,
  i232:=by kernel_rfl,
  i233:=by kernel_rfl,
  m17:=by kernel_rfl,
  m18:=by kernel_rfl,
  m19:=by kernel_rfl}
theorem c_Trim (l cs:List UInt8)(w:World)(hl:l.length≤9223372036854775807)(hcs:cs.length<4294967281)(ha:cs.all (fun b=>decide (b.toNat<128))=true):
 Calls Tryz.prog 160 #[.string (str l),.string (str cs)] w fun e w'=>e= .returned (.string (str (Lib.trimS l cs)))∧Below w.heap.size w w':=
 Any.strings_Trim_laid lay160 (by kernel_rfl) (str l) (str cs) w (by rw[str_size];exact hl) (by rw[str_size];exact hcs) (ascii_of_all ha)
theorem c_TrimLeft (l cs:List UInt8)(w:World)(hcs:cs.length<4294967281)(ha:cs.all (fun b=>decide (b.toNat<128))=true):
 Calls Tryz.prog 396 #[.string (str l),.string (str cs)] w fun e w'=>e= .returned (.string (str (Lib.trimLeftS l cs)))∧Below w.heap.size w w':=
 Any.strings_TrimLeft_laid lay161 (by kernel_rfl) (str l) (str cs) w (by rw[str_size];exact hcs) (ascii_of_all ha)
theorem dropWhile_nil (p:UInt8→Bool)(l:List UInt8):l.dropWhile p=[]↔l.all p=true:=by
 induction l with
 |nil=>simp
 |cons a l ih=>by_cases h:p a=true<;>simp[h];simpa using ih
theorem trimS_nil (l cs:List UInt8):Lib.trimS l cs=[]↔l.all (cs.contains ·)=true:=by
 unfold Lib.trimS Lib.trimLeftS Lib.trimRightS;rw[dropWhile_nil,List.all_reverse];constructor
 ·intro h
  have:=dropWhile_nil (cs.contains ·) l.reverse;rw[List.all_reverse]at this;rw[← this];cases hd:l.reverse.dropWhile (cs.contains ·)with
  |nil=>rfl
  |cons a r=>
   rw[hd]at h
   have:=List.head_dropWhile_not (p:=(cs.contains ·)) (l:=l.reverse) (by rw[hd];simp)
   simp only[hd,List.head_cons]at this
   simp[List.all_cons]at h
   simp[h.1]at this
 ·intro h
  have:=(dropWhile_nil (cs.contains ·) l.reverse).2 (by rw[List.all_reverse];exact h);rw[this];rfl
theorem isE (l:List UInt8):(str l).toList.isEmpty=l.isEmpty:=by rw[ByteArray.toList_eq];rfl
theorem isE_str (l:List UInt8){b:Bool}(h:l.isEmpty=b):(str l).toList.isEmpty=b:=(isE l).trans h
theorem str_at (l:List UInt8)(i:Nat)(h:i<(str l).size):(str l)[i]=l[i]'(by rw[← str_size];exact h):=rfl
theorem trim_let (l:List UInt8):(Lib.trimS l letters).isEmpty=l.all isLet:=by
 have e:l.all (letters.contains ·)=l.all isLet:=by congr 1;funext c;exact let_has c
 rw[Bool.eq_iff_iff,List.isEmpty_iff,trimS_nil,e]
theorem trim_dig (l:List UInt8):(Lib.trimS l figures).isEmpty=l.all isDig:=by
 have e:l.all (figures.contains ·)=l.all isDig:=by congr 1;funext c;exact dig_has c
 rw[Bool.eq_iff_iff,List.isEmpty_iff,trimS_nil,e]
theorem p_Word (l:List UInt8)(w:World)(hl:l.length≤9223372036854775807):
 Calls Tryz.prog 102 #[.string (str l)] w fun e w'=>e= .returned (.int .i64 (wordErr l))∧Below w.heap.size w w':=by
 cases h0:l.isEmpty with
 |true=>
  have e0:=isE_str l h0
  have hz:wordErr l=3:=by simp[wordErr,h0]
  rw[hz]
  go_enter Tryz.func102,Tryz.ntmps102
  go_wp2_with fail
  go_ret
  exact⟨rfl,Below.refl _ _⟩
 |false=>
  have e0:=isE_str l h0
  cases h1:l.all isLet with
  |false=>
   have e1:=isE_str _ ((trim_let l).trans h1)
   have hz:wordErr l=3:=by simp[wordErr,h1]
   rw[hz]
   go_enter Tryz.func102,Tryz.ntmps102
   go_wp2_with fail
   refine(c_Trim l letters _ hl (by decide) (by decide)).mono ?_
   rintro e w1 ⟨rfl,hB⟩
   go_simp
   go_wp2_with fail
   go_ret
   exact⟨rfl,hB⟩
  |true=>
   have e1:=isE_str _ ((trim_let l).trans h1)
   have hz:wordErr l=if 24<(str l).size then 19 else 0:=by simp[wordErr,h0,h1,str_size]
   go_enter Tryz.func102,Tryz.ntmps102
   go_wp2_with fail
   refine(c_Trim l letters _ hl (by decide) (by decide)).mono ?_
   rintro e w1 ⟨rfl,hB⟩
   go_simp
   go_wp2_with fail
   ·go_ret
    exact⟨ret_int (by rw[hz,if_pos (by omega)]),hB⟩
   ·go_ret
    exact⟨ret_int (by rw[hz,if_neg (by omega)]),hB⟩
theorem p_nat (l:List UInt8)(w:World)(hl:l.length≤9223372036854775807):
 Calls Tryz.prog 346 #[.string (str l)] w fun e w'=>e= .returned (.bool (natB l))∧Below w.heap.size w w':=by
 cases h0:l.isEmpty with
 |true=>
  have e0:=isE_str l h0
  have hz:natB l=false:=by simp[natB,h0]
  rw[hz]
  go_enter Tryz.func346,Tryz.ntmps346
  go_wp2_with fail
  go_ret
  exact⟨rfl,Below.refl _ _⟩
 |false=>
  have e0:=isE_str l h0
  cases h1:l.all isDig with
  |false=>
   have e1:=isE_str _ ((trim_dig l).trans h1)
   have hz:natB l=false:=by simp[natB,h1]
   rw[hz]
   go_enter Tryz.func346,Tryz.ntmps346
   go_wp2_with fail
   refine(c_Trim l figures _ hl (by decide) (by decide)).mono ?_
   rintro e w1 ⟨rfl,hB⟩
   go_simp
   go_wp2_with fail
   go_ret
   exact⟨rfl,hB⟩
  |true=>
   have e1:=isE_str _ ((trim_dig l).trans h1)
   have hs0:0<(str l).size:=by rw[str_size];cases l with
    |nil=>simp at h0
    |cons _ _=>simp
   go_enter Tryz.func346,Tryz.ntmps346
   go_wp2_with fail
   refine(c_Trim l figures _ hl (by decide) (by decide)).mono ?_
   rintro e w1 ⟨rfl,hB⟩
   go_simp
   go_wp2_with fail
   ·go_ret
    rename_i h48;rw[str_at]at h48;refine⟨ret_bool ?_,hB⟩;rw[str_size];cases l with
    |nil=>simp at h0
    |cons c r=>
     have hc:c=48:=UInt8.toNat_inj.1 (by have h:(c.toNat:Int)=48:=h48;exact Int.ofNat.inj h)
     have hb:(List.all (c::r) isDig)=true:=h1
     unfold natB
     rw[hb,List.head?_cons,hc]
     rw[Bool.eq_iff_iff];simp;cases r<;>simp;omega
   ·go_ret
    rename_i h48;rw[str_at]at h48;refine⟨ret_bool ?_,hB⟩;cases l with
    |nil=>simp at h0
    |cons c r=>
     have hc:c≠48:=by rintro rfl;exact h48 rfl
     have hb:(List.all (c::r) isDig)=true:=h1
     simp only[natB,List.isEmpty_cons,hb,List.head?_cons,Option.some.injEq,ne_eq,hc];rfl
theorem p_number (l:List UInt8)(w:World)(hl:l.length≤9223372036854775807):
 Calls Tryz.prog 394 #[.string (str l)] w fun e w'=>e= .returned (.int .i64 (numErr l))∧Below w.heap.size w w':=by
 have nat2:∀b,natB l=b→∀w1,Below w.heap.size w w1→Calls Tryz.prog 346 #[.string (str l)] w1 fun e w'=>e= .returned (.bool b)∧Below w.heap.size w w':=fun b hb w1 hB=>
  (p_nat l w1 hl).mono fun e w' ⟨h1,h2⟩=>⟨by rw[h1,hb],hB.trans (h2.mono hB.size)⟩
 cases h0:l.isEmpty with
 |true=>
  have e0:=isE_str l h0
  have hz:numErr l=3:=by simp[numErr,h0]
  have hn:natB l=false:=by simp[natB,h0]
  rw[hz]
  go_enter Tryz.func394,Tryz.ntmps394
  go_wp2_with fail
  refine(nat2 _ hn _ (Below.refl _ _)).mono ?_
  rintro e w1 ⟨rfl,hB⟩
  go_simp;go_wp2_with fail;go_ret;exact⟨rfl,hB⟩
 |false=>
  have e0:=isE_str l h0
  cases h1:l.all isDig with
  |false=>
   have e1:=isE_str _ ((trim_dig l).trans h1)
   have hz:numErr l=3:=by simp[numErr,h1]
   have hn:natB l=false:=by simp[natB,h1]
   rw[hz]
   go_enter Tryz.func394,Tryz.ntmps394
   go_wp2_with fail
   refine(c_Trim l figures _ hl (by decide) (by decide)).mono ?_
   rintro e w1 ⟨rfl,hB⟩
   go_simp
   go_wp2_with fail
   refine(nat2 _ hn _ hB).mono ?_
   rintro e w1 ⟨rfl,hB⟩
   go_simp;go_wp2_with fail;go_ret;exact⟨rfl,hB⟩
  |true=>
   have e1:=isE_str _ ((trim_dig l).trans h1)
   have hz:numErr l=if 1024<l.length then 11 else if natB l then 0 else 3:=by simp[numErr,h0,h1]
   by_cases hlen:1024<l.length
   ·have hs:(1024:Int)<((str l).size:Int):=by rw[str_size];omega
    rw[hz,if_pos hlen];go_enter Tryz.func394,Tryz.ntmps394;go_wp2_with fail;refine(c_Trim l figures _ hl (by decide) (by decide)).mono ?_;rintro e w1 ⟨rfl,hB⟩;go_simp;go_wp2_with fail;go_ret;exact⟨rfl,hB⟩
   ·have hs:¬(1024:Int)<((str l).size:Int):=by rw[str_size];omega
    rw[if_neg hlen]at hz;cases hn:natB l<;>rw[hn]at hz<;>rw[hz]
    all_goals
     go_enter Tryz.func394,Tryz.ntmps394
     go_wp2_with fail
     refine(c_Trim l figures _ hl (by decide) (by decide)).mono ?_
     rintro e w1 ⟨rfl,hB⟩
     go_simp
     go_wp2_with fail
     refine(nat2 _ hn _ hB).mono ?_
     rintro e w1 ⟨rfl,hB⟩
     go_simp;go_wp2_with fail;go_ret;exact⟨rfl,hB⟩
theorem idx_ge (l:List UInt8)(c:UInt8):decide (0≤Lib.indexByte l c)=l.contains c:=by
 have:=Lib.indexByte_ge l c;rw[Bool.eq_iff_iff,decide_eq_true_eq,List.contains_iff_mem];constructor
 ·intro h
  obtain⟨o,ho⟩:∃o:Nat,Lib.indexByte l c=o:=⟨(Lib.indexByte l c).toNat,by omega⟩;exact List.mem_of_getElem? (Lib.indexByte_some ho).1
 ·intro h
  rcases Int.lt_or_le (Lib.indexByte l c) 0 with h'|h'
  ·obtain⟨k,hk,he⟩:=List.getElem_of_mem h
   exact absurd (by rw[List.getElem?_eq_getElem hk,he]) (Lib.indexByte_none (by omega:Lib.indexByte l c= -1) k)
  ·exact h'
theorem p_sign (l:List UInt8)(w:World):
 Calls Tryz.prog 395 #[.string (str l)] w fun e w'=>e= .returned (.int .i64 (sgnErr l))∧Below w.heap.size w w':=by
 match l with
 |[]=>
  go_enter Tryz.func395,Tryz.ntmps395
  go_wp2_with fail
  go_ret
  exact⟨rfl,Below.refl _ _⟩
 |c::d::r=>
  have hs:(((str (c::d::r)).size:Int)!=1)=true:=by rw[str_size];simp;omega
  go_enter Tryz.func395,Tryz.ntmps395
  go_wp2_with fail
  go_ret
  exact⟨rfl,Below.refl _ _⟩
 |[c]=>
  have hm:∀w:World,Calls Tryz.prog 400 #[.string (str marks),.string (str [c])] w fun e w'=>e= .returned (.bool (isSgn c))∧w'=w:=fun w=>
   (Any.strings_Contains_one lay144 (str marks) c w).mono fun e w' ⟨h1,h2⟩=>⟨by rw[h1];exact ret_bool (idx_ge _ _),h2⟩
  cases hc:isSgn c<;>rw[show sgnErr [c]=if isSgn c then 0 else 3 from rfl,hc]
  all_goals
   rw[hc]at hm
   go_enter Tryz.func395,Tryz.ntmps395
   go_wp2_with fail
   refine(hm _).mono ?_
   rintro e w1 ⟨rfl,rfl⟩
   go_simp;go_wp2_with fail;go_ret;exact⟨rfl,Below.refl _ _⟩
theorem str_extract (l:List UInt8)(a b:Nat):(str l).extract a b=str ((l.drop a).take (b-a)):=Lib.extract_eq (str l) a b
theorem wrapS (n:Int)(h: -9223372036854775808≤n∧n≤9223372036854775807):RowKit.wrap64 n=n:=by unfold RowKit.wrap64;omega
theorem runOf_cons (c:UInt8)(r:List UInt8):runOf (c::r)=if isLet c then(c::r).takeWhile isLet else if isDig c then(c::r).takeWhile isDig else[c]:=rfl
theorem load_tok {w:World}{b:Nat}{v0 v1 v2:Value}(c0:w.cell? ⟨b,0,none⟩=some v0)(c1:w.cell? ⟨b,1,none⟩=some v1)(c2:w.cell? ⟨b,2,none⟩=some v2):
 (loadVar 307 ⟨b,0,none⟩).run Tryz.prog w= .ok (.agg #[v0,v1,v2]) w:=by
 go_simp
theorem cell_new3 (w:World)(v0 v1 v2:Value)(T:TypeId):(w.alloc (.cells #[v0,v1,v2] T)).cell? ⟨w.heap.size,0,none⟩=some v0∧(w.alloc (.cells #[v0,v1,v2] T)).cell? ⟨w.heap.size,1,none⟩=some v1∧
 (w.alloc (.cells #[v0,v1,v2] T)).cell? ⟨w.heap.size,2,none⟩=some v2:=by
 refine⟨?_,?_,?_⟩<;>simp[World.cell?_alloc_new]
def renA:Go.Shelf.Ren:=⟨fun|103=>397|129=>311|171=>83|172=>178|205=>351|206=>403|210=>401|243=>132|244=>239|245=>240|246=>184|247=>300|279=>301|280=>302|281=>303|282=>304|283=>248|284=>249|285=>250|286=>251|287=>349|316=>350|317=>310|318=>312|319=>313|320=>314|321=>383|322=>384|337=>357|338=>358|n=>n,fun|0=>0|2=>2|3=>3|4=>4|5=>5|9=>9|20=>20|21=>21|24=>453|37=>122|46=>320|51=>378|53=>315|75=>135|76=>136|80=>116|85=>366|127=>188|143=>439|145=>441|167=>365|168=>368|171=>314|173=>318|175=>405|210=>408|212=>377|213=>379|232=>442|233=>443|n=>n,fun|15=>2|16=>3|17=>0|18=>6|19=>7|n=>n⟩
theorem lay103:Go.Proofs.Lays.n103 Tryz.prog renA:=
 {mixed:=by kernel_rfl,
  f103:=by kernel_rfl,
  f206:=by kernel_rfl,
  f210:=by kernel_rfl,
  t3:=by kernel_rfl,
  a3:=fun _=>by kernel_rfl,
  z3:=fun _=>by kernel_rfl,
  v3:=fun _=>by kernel_rfl,
  t4:=by kernel_rfl,
  a4:=fun _=>by kernel_rfl,
  z4:=fun _=>by kernel_rfl,
  v4:=fun _=>by kernel_rfl,
  t9:=by kernel_rfl,
  a9:=fun _=>by kernel_rfl,
  z9:=fun _=>by kernel_rfl,
  v9:=fun _=>by kernel_rfl,
  t24:=by kernel_rfl,
  a24:=fun _=>by kernel_rfl,
  z24:=fun _=>by kernel_rfl,
  v24:=fun _=>by kernel_rfl}
theorem bytes_below (w:World)(e:TypeId)(s:ByteArray):Below w.heap.size w (Lib.bytesWorld w e s):=
 ⟨rfl,rfl,rfl,by rw[Lib.bytesWorld_size];omega,fun k hk=>Lib.bytesWorld_at_old w e s k hk⟩
theorem nat_digits {l:List UInt8}(h:natB l=true):l≠[]∧l.all isDig=true∧(l.head? ≠some 48∨l.length=1):=by
 unfold natB at h;simp only[Bool.and_eq_true,Bool.not_eq_true',List.isEmpty_eq_false_iff,Bool.or_eq_true,decide_eq_true_eq]at h;exact⟨h.1.1,h.1.2,h.2⟩
theorem i_Check (l:List UInt8)(w:World)(hn:natB l=true)(hl:l.length≤24):
 Calls Tryz.prog 381 #[.string (str l)] w fun e w'=>e= .returned (.int .i64 0)∧Below w.heap.size w w':=by
 obtain⟨h1,h2,h3⟩:=nat_digits hn;obtain⟨c,r,hcr⟩:∃c r,l=c::r:=by
  cases l with
  |nil=>exact absurd rfl h1
  |cons c r=>exact⟨c,r,rfl⟩
 have hcd:isDig c=true:=by rw[hcr]at h2;simp at h2;exact h2.1
 have hpre:Lib.hasPrefix l [45]=false:=by
  rw[hcr];unfold Lib.hasPrefix;have:c≠45:=by rintro rfl;simp[isDig]at hcd
  simp[List.isPrefixOf];exact fun h=>this h.symm
 have hcut:∀w,Calls Tryz.prog 397 #[.string (str l),.string (str [45])] w fun e w'=>e= .returned (.tuple #[.string (str l),.bool false])∧w'=w:=fun w=>by
  refine(Any.strings_CutPrefix lay103 (str l) (str [45]) w).mono ?_;rintro e w' ⟨h,h'⟩;rw[str_data,str_data]at h;have ht:Lib.trimPrefix l [45]=l:=by unfold Lib.trimPrefix;rw[hpre];rfl
  rw[hpre,ht]at h;exact⟨h,h'⟩
 have hcv:=Lib.run_convert_string_bytes (P:=Tryz.prog) w 9 122 5 (str l) (u:= .string) (by kernel_rfl) (by kernel_rfl) (by kernel_rfl);have hB:∀j,j<l.length→∃d,isDig d=true∧(Lib.bytesWorld w 5 (str l)).cell? ⟨w.heap.size,j,none⟩=some (.int .u8 d.toNat):=fun j hj=>by
  refine⟨l[j],List.all_eq_true.1 h2 _ (List.getElem_mem hj),?_⟩;have:=Lib.bytesWorld_cell w 5 (str l) j (by rw[str_size];exact hj);rw[this,str_data];simp[List.getD,hj]
 have hbel:=bytes_below w 5 (str l);have hszw:=Lib.bytesWorld_size w 5 (str l);obtain⟨W1,hW1⟩:∃W1,W1=Lib.bytesWorld w 5 (str l):=⟨_,rfl⟩;rw[← hW1]at hcv hB hbel hszw;generalize grownCap w (str l).size 0 5=gc at*
 have HB:=hid hB;have hsz:=str_size l;have hs0:0<(str l).size:=by rw[hsz,hcr];simp
 have hE:=isE_str l (b:=false) (by rw[hcr];rfl);have h0:((((str l)[0]'hs0).toNat:Nat):Int)=48→(str l).size=1:=fun h=>by
  have h48:c=48:=by
   have:(str l)[0]'hs0=c:=by simp[str_at,hcr]
   rw[this]at h;exact UInt8.toNat_inj.1 (by have h':(48:UInt8).toNat=48:=rfl;omega)
  rcases h3 with h3|h3
  ·rw[hcr,h48]at h3;simp at h3
  ·rw[hsz];exact h3
 have H0:=hid h0;have HL:=hid hl;have HW:=hid hW1;clear hW1 hB h0 hn h1 h2 h3 hcr hcd hpre hl;go_enter Tryz.func381,Tryz.ntmps381;go_wp2_with fail;refine(hcut _).mono ?_;rintro e w0 ⟨rfl,rfl⟩;go_simp;go_wp2_with fail;go_loopw [15] (fun i wr=>∃k:Nat,k≤l.length∧i= .int .i64 k∧wr=W1) (fun i _=>l.length-(intOf i).toNat);case atStart=>exact⟨0,Nat.zero_le _,rfl,rfl⟩
 case round=>
  obtain⟨k,hk,rfl,rfl⟩:=hrel;by_cases hkt:k<l.length
  ·obtain⟨d,hd,hcell⟩:=HB.out k hkt
   have hd1:(48:Int)≤d.toNat:=by unfold isDig at hd;simp at hd;omega
   have hd2:(d.toNat:Int)≤57:=by unfold isDig at hd;simp at hd;omega
   have hd3:¬((d.toNat:Int)<48):=by omega
   have hd4:¬((57:Int)<d.toNat):=by omega
   have hws:w0.heap.size<wr.heap.size:=by omega
   clear hd;go_wp2_with fail;rw[wrapS _ (by have:=HL.out;omega)];go_roundw;case rel=>exact⟨k+1,by omega,by go_num,trivial⟩
   case measure=>simp[intOf];omega
  ·have hkl:k=l.length:=by omega
   have h24:¬((1024:Int)<((str l).size:Int)):=by have:=HL.out;omega
   by_cases h48:((((str l)[0]'hs0).toNat:Nat):Int)=48
   ·have h1:=H0.out h48
    have h1':¬((1:Int)<((str l).size:Int)):=by omega
    have h48':(((((str l)[0]'hs0).toNat:Nat):Int)==48)=true:=by rw[h48];rfl
    clear h48 h1;go_wp2_with fail;go_ret;exact⟨rfl,hbel⟩
   ·have h48':(((((str l)[0]'hs0).toNat:Nat):Int)==48)=false:=by simpa using h48
    clear h48;go_wp2_with fail;go_ret;exact⟨rfl,hbel⟩
def limR (t:List UInt8):Int×List UInt8:=if 4096<t.length then(19,[])else(0,t)
def chipB (n:Int):Bool:=decide (-1048576≤n)&&decide (n≤1048576)
def intsT (l:List Int):List UInt8:=l.flatMap fun n=>32::Lib.itoa n
def timesT (m:Int):List UInt8:=if m=1 then[]else 42::Lib.itoa m
def arcT (sign:UInt8)(x:E):List UInt8:=32::(Lib.itoa x.a++sign::(Lib.itoa x.b++timesT x.m))
def arcsT (sign:UInt8)(es:List E):List UInt8:=es.flatMap (arcT sign)
def tabT (sign:UInt8)(g:G):List UInt8:=Lib.itoa g.n++58::arcsT sign g.es
def wGraph:List UInt8:=[103,114,97,112,104]
def graphR (g:G):Int×List UInt8:=if checkErr g≠0 then(checkErr g,[])else limR (wGraph++32::tabT 45 g)
def numOf (l:List UInt8):Nat:=l.foldl (fun n c=>10*n+(c.toNat-48)) 0
def natR (l:List UInt8):Int×Int:=if natB l=false then(0,3)else if 1099511627776<numOf l then(0,11)else(numOf l,0)
structure Rs where
 ts:List Tok
 e:Int
 pl:Int
 deriving Inhabited,DecidableEq
def Rs.now (s:Rs):Tok:=s.ts[0]?.getD default
def Rs.fail (k p:Int)(s:Rs):Rs:=if s.e=0 then⟨s.ts,k,p⟩else s
def Rs.more (s:Rs):Bool:=decide (s.e=0)&&decide (s.now.kind≠3)
def Rs.is (t:List UInt8)(s:Rs):Bool:=s.more&&decide (s.now.text=t)
def Rs.skip (s:Rs):Rs:=⟨s.ts.drop 1,s.e,s.pl⟩
def Rs.need (t:List UInt8)(s:Rs):Rs:=if s.is t then s.skip else s.fail 4 s.now.pos
def Rs.num (lo hi:Int)(s:Rs):Int×Rs:=
 if s.e≠0∨s.now.kind≠1 then(0,s.fail 4 s.now.pos)
 else if (natR s.now.text).2≠0∨(natR s.now.text).1<lo∨hi<(natR s.now.text).1 then(0,s.fail 2 s.now.pos)
 else((natR s.now.text).1,s.skip)
structure Ln where
 a:Int
 b:Int
 m:Int
 pl:Int
 deriving Inhabited,DecidableEq
def Rs.mul (s:Rs):Int×Rs:=if s.is [42]then s.skip.num 1 50 else(1,s)
def Rs.line (sign:UInt8)(n:Int)(s:Rs):Ln×Rs:=
 let p1:=s.num 0 (n-1)
 let p2:=(p1.2.need [sign]).num 0 (n-1)
 let p3:=p2.2.mul
 (⟨p1.1,p2.1,p3.1,s.now.pos⟩,p3.2)
def Rs.head (word:List UInt8)(s:Rs):Int×Rs:=
 let p:=(s.need word).num 1 12
 (p.1,p.2.need [58])
def opened (z:Scn):Rs:=match z with| .inl x=>⟨[⟨3,[],0⟩],x.2,x.1⟩| .inr l=>⟨l,0,0⟩
def addM (M:Int→Int→Int)(a b m:Int):Int→Int→Int:=fun x y=>if x=a∧y=b then M a b+m else M x y
def lo (either:Bool)(x:Ln):Int:=if either then min x.a x.b else x.a
def hi (either:Bool)(x:Ln):Int:=if either then max x.a x.b else x.b
def exactG (n:Int):Nat→List E→Rs→List E×Rs
 |0,es,s=>(es,s)
 |f+1,es,s=>
  if s.e≠0∨s.is [59]=true then(es,s)
  else
   let p:=s.line 45 n
   let bad:=p.1.b<p.1.a∨0<es.length∧(p.1.a<(es[es.length-1]?.getD default).a∨p.1.a=(es[es.length-1]?.getD default).a∧p.1.b≤(es[es.length-1]?.getD default).b)
   if p.2.e≠0 then(es++[⟨p.1.a,p.1.b,p.1.m⟩],p.2)
   else if bad then(es++[⟨p.1.a,p.1.b,p.1.m⟩],p.2.fail 9 p.1.pl)
   else exactG n f (es++[⟨p.1.a,p.1.b,p.1.m⟩]) p.2
theorem Tryz.underToks:Tryz.prog.underlying 234=some (.slice 307):=by kernel_rfl
theorem Tryz.infoTok:(Tryz.prog.info? 307).map (fun i=>(i.zero,i.size,i.bytes))=some (some (.agg #[.int .i64 0,.string {data:= #[]},.int .i64 0]),3,32):=by kernel_rfl
theorem wp_app3 {P:Program}(wr:World){o:Oper}{a:Act}{K:Act→World→Prop}{Q:Exit→Act→World→Prop}
 (s xop:Operand) (t:TypeId) (ho:o.op= .call {callee:= .builtin .append,args:= #[s,xop],argTypes:= #[t,t]})
 (e:TypeId) (ht:P.underlying t=some (.slice e)) (hinfo:(P.info? e).map (fun i=>(i.zero,i.size,i.bytes))=some (some (.agg #[.int .i64 0,.string {data:= #[]},.int .i64 0]),3,32))
 (base:Nat) (v:Value) (l:List Tok) (hown:wr.ownsRow base e 3 v l.length (tokCells l)) (x:Tok) (B:Nat)
 (hnews:∀j u,x.cells[j]? =some u→wr.cell? ((⟨B,0,none⟩:Addr).add j)=some u)
 (hs:a.eval s=v) (hx:a.eval xop= .slice (some ⟨B,0,none⟩) 1 1) (hlen:l.length≤1000000000) (hbase:base≤wr.heap.size)
 (h:∀v' w',w'.ownsRow base e 3 v' (l++[x]).length (tokCells (l++[x]))→wr.grownBy w' v.ownBlock→(∀ k,v.ownBlock=some k→base≤k∧k<wr.heap.size)→K (a.put o.dst v') w'):
 Oper.wp P o a wr K Q:=by
 obtain⟨i,hi,hz,hsz,hby⟩:=info_parts hinfo;refine wp_append_own wr s xop t ho base e i _ 3 32 ht hi hz hsz hby rfl (by decide) v l.length _ hs hown ⟨B,0,none⟩ 1 1 x.cells hx rfl hnews (by intro u hu;simp[Tok.cells]at hu;rcases hu with rfl|rfl|rfl<;>rfl) (by unfold maxLen;omega) (by omega) (by omega) ?_;intro v' w' hown' hgr _;refine h v' w' ?_ hgr (fun k hk=>hown.lt k hk);rw[tokCells_snoc];simpa using hown'
theorem wpList_app3 {P:Program}(wr:World){ops:Array Oper}{rest:List Oper}{o:Oper}{a:Act}{Q:Exit→Act→World→Prop}(hgd:o.guard=none)
 (s xop:Operand) (t:TypeId) (ho:o.op= .call {callee:= .builtin .append,args:= #[s,xop],argTypes:= #[t,t]})
 (e:TypeId) (ht:P.underlying t=some (.slice e)) (hinfo:(P.info? e).map (fun i=>(i.zero,i.size,i.bytes))=some (some (.agg #[.int .i64 0,.string {data:= #[]},.int .i64 0]),3,32))
 (base:Nat) (v:Value) (l:List Tok) (hown:wr.ownsRow base e 3 v l.length (tokCells l)) (x:Tok) (B:Nat) (hBs:B=wr.heap.size)
 (hs:a.eval s=v) (hx:a.eval xop= .slice (some ⟨B,0,none⟩) 1 1) (hlen:l.length≤1000000000) (hbase:base≤wr.heap.size)
 (h:∀v' w',w'.ownsRow base e 3 v' (l++[x]).length (tokCells (l++[x]))→wr.grownBy w' v.ownBlock→(∀ k,v.ownBlock=some k→base≤k∧k<wr.heap.size)→wpList P ops Q rest (a.put o.dst v') w'):
 wpList P ops Q (o::rest) a (wr.alloc (.cells #[.int .i64 x.kind,.string (str x.text),.int .i64 x.pos] e)):=by
 subst hBs;refine wpList_plain hgd fun _ hK=>wp_app3 _ s xop t ho e ht hinfo base v l (hown.alloc _) x wr.heap.size ?_ hs hx hlen (by simp;omega) ?_
 ·intro j u hj
  have e2:(⟨wr.heap.size,0,none⟩:Addr).add j=⟨wr.heap.size,j,none⟩:=by unfold Addr.add;split<;>simp_all
  rw[e2,World.cell?_alloc_new];simpa[Tok.cells]using hj
 ·intro v' w' h1 h2 h3
  refine hK _ _ (h v' w' h1 ?_ fun k hk=>⟨(h3 k hk).1,(hown.lt k hk).2⟩);refine⟨h2.os,h2.tape,h2.output,by have:=h2.size;simp at this;omega,fun k hk hne=> ?_⟩;rw[h2.block k (by simp;omega) hne];exact Below.heap_alloc _ _ _ hk
theorem grown_cell {w w':World}{r:Option Nat}(hg:w.grownBy w' r)(b o:Nat)(hb:b<w.heap.size)(hne:some b≠r):w'.cell? ⟨b,o,none⟩=w.cell? ⟨b,o,none⟩:=by
 have:=hg.block b hb hne;simp only[World.cell?,this]
def RetScan (z:Scn)(w:World)(e:Ending)(w':World):Prop:=
 ∃v,e= .returned (.tuple #[v,.int .i64 z.at',.int .i64 z.no])∧w'.ownsRow w.heap.size 307 3 v z.toks.length (tokCells z.toks)∧Below w.heap.size w w'
theorem str_drop {s:List UInt8}{p:Nat}(h:p<(str s).size):s.drop p=(str s)[p]'h::s.drop (p+1):=List.drop_eq_getElem_cons (by rw[← str_size];exact h)
theorem results_cell1' {P:Program}{fn:Func}{k:Nat}{t:TypeId}(h:fn.results= #[.cell k t]){tmps:Array Value}{b:Nat}{v:Value}{w:World}(ht:tmps[k]?.getD undef= .pointer (some ⟨b,0,none⟩))
 (hl:(loadVar t ⟨b,0,none⟩).run P w= .ok v w):(results fn tmps).run P w= .ok v w:=by
 simp[results,h,ht,asAddr,hl]
def clsV:Value:= .agg #[.string (str letters),.int .i64 0,.func (.func 102) #[] #[],.bool true,.string (str figures),.int .i64 1,.func (.func 394) #[] #[],.bool true,
 .string (str marks),.int .i64 2,.func (.func 395) #[] #[],.bool false]
theorem p_classes (w:World):Calls Tryz.prog 379 #[] w fun e w'=>e= .returned clsV∧Below w.heap.size w w':=by
 go_enter Tryz.func379,Tryz.ntmps379;go_wp2_with fail;refine bodyPost_ret (results_cell1' (v:=clsV) rfl rfl ?_) rfl ?_
 ·unfold clsV
  go_simp;exact⟨rfl,rfl,rfl⟩
 ·exact⟨rfl,by go_grown⟩
structure Scr (w:World)(B b:Nat)(s:List UInt8)(p:Nat)(v:Value)(l:List Tok):Prop where
 blk:Blk w b #[.string (str s),.int .i64 p,v] 403
 le:B≤b
 row:w.ownsRow B 307 3 v l.length (tokCells l)
 ne:some b≠v.ownBlock
 size:B≤w.heap.size
theorem Scr.below {w w':World}{B b:Nat}{s:List UInt8}{p:Nat}{v:Value}{l:List Tok}(h:Scr w B b s p v l)(hB:Below w.heap.size w w'):Scr w' B b s p v l:=
 ⟨h.blk.below hB,h.le,owns_below h.row hB,h.ne,Nat.le_trans h.size hB.size⟩
theorem Scr.cells {w:World}{B b:Nat}{s:List UInt8}{p:Nat}{v:Value}{l:List Tok}(h:Scr w B b s p v l):
 w.cell? ⟨b,0,none⟩=some (.string (str s))∧w.cell? ⟨b,1,none⟩=some (.int .i64 p)∧w.cell? ⟨b,2,none⟩=some v∧b<w.heap.size∧w.frozen? ⟨b,1,none⟩=false∧w.frozen? ⟨b,2,none⟩=false:=
 ⟨by rw[h.blk.cell];rfl,by rw[h.blk.cell];rfl,by rw[h.blk.cell];rfl,h.blk.lt,h.blk.frozen 1,h.blk.frozen 2⟩
theorem owns_ne_blk {w:World}{base b:Nat}{e T:TypeId}{size n:Nat}{v:Value}{xs:List Value}{cs:Array Value}(h:w.ownsRow base e size v n xs)(hb:Blk w b cs T)(hT:T≠e):some b≠v.ownBlock:=by
 rcases h.2 with ⟨rfl,_⟩|⟨g,cap,cur,rfl,_,hg,_⟩
 ·simp[Value.ownBlock]
 ·intro he
  have hgb:b=g:=by simpa[Value.ownBlock]using he
  subst hgb;unfold Blk at hb;rw[hg]at hb;simp at hb;exact hT hb.2.symm
theorem Scr.put {w w':World}{B b:Nat}{s:List UInt8}{p q:Nat}{v v':Value}{l':List Tok}(h:Blk w b #[.string (str s),.int .i64 p,v] 403)(hle:B≤b)(hs:B≤w.heap.size)
 (hrow:w.ownsRow B 307 3 v' l'.length (tokCells l')) (he:w'=(w.setCell ⟨b,2,none⟩ v').setCell ⟨b,1,none⟩ (.int .i64 q)):Scr w' B b s q v' l':=by
 subst he;have hne:=owns_ne_blk hrow h (by decide);have h1:Blk ((w.setCell ⟨b,2,none⟩ v').setCell ⟨b,1,none⟩ (.int .i64 q)) b _ _:=(h.set 2 v').set 1 (.int .i64 q);refine⟨h1,hle,?_,hne,by simpa using hs⟩;have ho:v'.ownBlock=none∨v'.ownBlock≠some b:= .inr (fun h=>hne h.symm);exact(hrow.kept (grown_set w b 2 v') ho).kept (grown_set _ b 1 _) ho
def Took (B b:Nat)(s:List UInt8)(p:Nat)(v:Value)(l:List Tok)(k:Int)(t:List UInt8)(er:Int)(w:World)(e:Ending)(w':World):Prop:=
 e= .returned (.int .i64 er)∧Below B w w'∧(er≠0→Scr w' B b s p v l)∧(er=0→∃v',Scr w' B b s (p+t.length) v' (l++[⟨k,t,p⟩]))
theorem take_drop_len (f:UInt8→Bool)(l:List UInt8):(l.takeWhile f).length+(l.dropWhile f).length=l.length:=by
 rw[← List.length_append,List.takeWhile_append_dropWhile]
end Go.Proofs.YtclgllmipcbagaaGreatDoor
