/- The document's way to read a sign (aquref1.sign). No statement of the seat is proved here. -/
import Derived.Test.YtlbdklaggalgfaaGreatDoorG41
set_option linter.unusedVariables false
set_option maxHeartbeats 4000000
namespace Go.Proofs.YtlbdklaggalgfaaGreatDoor
open Go.RowKit Go.Aq Go.Aq.Wd
def sgV (o:Option (Nat×Nat)):Value:=match o with
 | none=>.tuple #[.int .i64 0,.int .i64 0,.bool false]
 | some (c,n)=>.tuple #[.int .i64 (c:Nat),.int .i64 (n:Nat),.bool true]
theorem rsign_0 (l:List UInt8) (p:Nat) (w:World) (hp:p<l.length) (hl:l.length≤1000000000) (h1:(l[p]'hp).toNat<128):
  Calls Tryz.prog 179 #[.string (str l),.int .i64 p] w fun e w'=>e=.returned (sgV (refSign (l.drop p)))∧w'=w:=by
 have hsz:=str_size l;have ix:=fun w'=>idxS w' l p hp
 have hd:l.drop p=l[p]::l.drop (p+1):=List.drop_eq_getElem_cons hp;have hr:refSign (l.drop p)=some ((l[p]'hp).toNat,1):=by
  rw[hd];unfold refSign;simp only;rw[if_pos h1]
 rw[hr];clear hr hd;generalize (l[p]'hp).toNat=x at *;have t1:decide ((x:Int)<128)=true:=by simp;omega
 have t1':decide (x<128)=true:=by simp;omega
 go_enter Tryz.func179,Tryz.ntmps179;go_wp2_with fail
 go_ret3
 exact⟨rfl,rfl⟩
set_option maxRecDepth 100000 in
theorem rsign_n (l:List UInt8) (p:Nat) (w:World) (hp:p<l.length) (hl:l.length≤1000000000) (h1:128≤(l[p]'hp).toNat) (h2:(l[p]'hp).toNat<192∨247<(l[p]'hp).toNat):
  Calls Tryz.prog 179 #[.string (str l),.int .i64 p] w fun e w'=>e=.returned (sgV (refSign (l.drop p)))∧w'=w:=by
 have hsz:=str_size l;have ix:=fun w'=>idxS w' l p hp
 have hd:l.drop p=l[p]::l.drop (p+1):=List.drop_eq_getElem_cons hp;have hr:refSign (l.drop p)=none:=by
  rw[hd];unfold refSign;simp only;rw[if_neg (by omega),if_neg (by omega),if_neg (by omega),if_neg (by omega)]
 rw[hr];clear hr hd;have hx:=(l[p]'hp).toNat_lt;generalize (l[p]'hp).toNat=x at *;have hh:(decide ((x:Int)<128)=false∧decide (x<128)=false∧decide (192≤(x:Int))=false∧decide (192≤x)=false∧decide (224≤(x:Int))=false∧decide (224≤x)=false∧decide (240≤(x:Int))=false∧decide (240≤x)=false)∨
   (decide ((x:Int)<128)=false∧decide (x<128)=false∧decide (192≤(x:Int))=true∧decide (192≤x)=true∧decide ((x:Int)≤223)=false∧decide (x≤223)=false∧decide (224≤(x:Int))=true∧decide (224≤x)=true∧decide ((x:Int)≤239)=false∧decide (x≤239)=false∧decide (240≤(x:Int))=true∧decide (240≤x)=true∧decide ((x:Int)≤247)=false∧decide (x≤247)=false):=by
  simp only[decide_eq_true_eq,decide_eq_false_iff_not];omega
 have hxb:(x:Int)≤255:=by omega
 clear h1 h2 hx;rcases hh with ⟨a1,a2,a3,a4,a5,a6,a7,a8⟩ | ⟨a1,a2,a3,a4,a5,a6,a7,a8,a9,a10,a11,a12,a13,a14⟩
 all_goals
  go_enter Tryz.func179,Tryz.ntmps179;go_wp2_with fail
  go_ret3
  exact⟨rfl,rfl⟩
set_option maxRecDepth 100000 in
theorem rsign_1 (l:List UInt8) (p:Nat) (w:World) (hp:p<l.length) (hl:l.length≤1000000000) (h1:192≤(l[p]'hp).toNat) (h2:(l[p]'hp).toNat≤223):
  Calls Tryz.prog 179 #[.string (str l),.int .i64 p] w fun e w'=>e=.returned (sgV (refSign (l.drop p)))∧w'=w:=by
 have hsz:=str_size l;have ix:=fun w'=>idxS w' l p hp
 have hd:l.drop p=l[p]::l.drop (p+1):=List.drop_eq_getElem_cons hp;have hx:=(l[p]'hp).toNat_lt;have hr:refSign (l.drop p)=finS 1 128 (contF 1 ((l[p]'hp).toNat % 32) (l.drop (p+1))):=by
  rw[hd];unfold refSign;simp only;rw[if_neg (by omega),if_pos (by omega)]
 generalize (l[p]'hp).toNat=x at *;have hm:=i64mask x 31 5 (by omega) (by decide) (by decide);rw[show (2:Nat)^5=32 by decide] at hm;have hmi:bits .and .i64 (x:Int) 31=((x % 32:Nat):Int):=hm;clear hm hd;obtain⟨c0,hc0⟩:∃c0,c0=x % 32:=⟨_,rfl⟩;have hcb:c0<32:=by omega
 rw[←hc0] at hmi hr;have HR:=zH hr;have HC:=zH hc0;have t1:decide ((x:Int)<128)=false:=by simp;omega
 have t1':decide (x<128)=false:=by simp;omega
 have t2:decide (192≤(x:Int))=true:=by simp;omega
 have t2':decide (192≤x)=true:=by simp;omega
 have t3:decide ((x:Int)≤223)=true:=by simp;omega
 have t3':decide (x≤223)=true:=by simp;omega
 have hxb:(x:Int)≤255:=by omega
 clear hr hc0 h1 h2 hx;go_enter Tryz.func179,Tryz.ntmps179;go_wp2_with fail;go_loopg [9,11] 1 (fun k vc vi wr=>∃(i c:Nat),vi=.int .i64 i∧vc=.int .i64 c∧1≤i∧i+k=1+1∧wr=w∧Hid (contF 1 c0 (l.drop (p+1))=contF (1+1 - i) c (l.drop (p+i)))∧Hid ((i=1→c<32)∧(i=2→c<2048)∧(i=3→c<131072)∧(i=4→c<8388608)));case atStart=>exact⟨1,c0,rfl,rfl,by omega,by omega,rfl,rfl,⟨by omega,by omega,by omega,by omega⟩⟩
 case round=>
  obtain⟨i,c,rfl,rfl,hi1,hik,rfl,HI,HB⟩:=hrel;clear ix t1 t1' t2 t2' t3 t3' hmi;by_cases hi:i≤1
  ·have r1:decide ((i:Int)≤1)=true:=by simp;omega
   have r1':decide (i≤1)=true:=by simp;omega
   have HP:=zB hi1 hik hi;have hcb2:c<131072:=by have:=HB.out;omega
   obtain⟨f,hf⟩:∃f,1+1 - i=f+1:=⟨1 - i,by omega⟩;have hf2:1+1 - (i+1)=f:=by omega
   have hi4:(i:Int)≤4:=by omega
   by_cases hb:p+i<l.length
   ·have r2:decide ((l.length:Int)≤(p:Int)+(i:Int))=false:=by simp;omega
    have r2':decide (l.length≤p+i)=false:=by simp;omega
    have ix:∀w',(Instr.index 9 (.string (str l)) (.int .i64 ((p:Int)+(i:Int)))).run Tryz.prog w'=.ok (.int .u8 ((l[p+i]'hb).toNat:Int)) w':=fun w'=>idxS w' l (p+i) hb
    have hy:=(l[p+i]'hb).toNat_lt;have hd2:l.drop (p+i)=l[p+i]::l.drop (p+(i+1)):=List.drop_eq_getElem_cons hb;have hst:contF 1 c0 (l.drop (p+1))=if (l[p+i]'hb).toNat / 64=2 then contF f (c * 64+(l[p+i]'hb).toNat % 64) (l.drop (p+(i+1))) else none:=by
     rw[HI.out,hf,hd2];rfl
    generalize (l[p+i]'hb).toNat=y at *;have hdv:(y:Int) / 64=((y / 64:Nat):Int):=by simp
    have hand:bits .and .u8 (y:Int) 63=((y % 64:Nat):Int):=by
     have:=(bits_u8 y 63 hy (by decide)).1;rw[show y &&& 63=y % 64 from Nat.and_two_pow_sub_one_eq_mod y 6] at this;exact this
    have hor:bits .or .i64 ((c:Int) * 64) ((y % 64:Nat):Int)=((c * 64+y % 64:Nat):Int):=i64orl c (y % 64) 6 (by omega) (by omega) (by decide);clear hd2 hi1 hik hi;by_cases h2:y / 64=2
    ·rw[if_pos h2] at hst;have hst2:Hid (contF 1 c0 (l.drop (p+1))=contF (1+1 - (i+1)) (c * 64+y % 64) (l.drop (p+(i+1)))):=by rw[hf2];exact hst
     have hyb:y % 64<64:=Nat.mod_lt _ (by decide);have HB2:Hid ((i+1=1→c * 64+y % 64<32)∧(i+1=2→c * 64+y % 64<2048)∧(i+1=3→c * 64+y % 64<131072)∧(i+1=4→c * 64+y % 64<8388608)):=by
      have:=HB.out;have:=HP.out;refine⟨by omega,by omega,by omega,by omega⟩
     have r3:(((y / 64:Nat):Int) != 2)=false:=by rw[h2];rfl
     generalize y % 64=y2 at *;generalize y / 64=y3 at *;obtain⟨c2,hc2⟩:∃c2,c * 64+y2=c2:=⟨_,rfl⟩;rw[hc2] at hor hst2 HB2;have hc3:(c2:Int)≤10000000:=by omega
     clear hst HI hc2 h2 HB;go_wp2_with fail;go_roundg (gk - 1);case measure=>have:=HP.out;omega
     case rel=>exact⟨i+1,c2,by go_num,rfl,by omega,by have:=HP.out;omega,rfl,hst2,HB2⟩
    ·rw[if_neg h2] at hst;have r3:(((y / 64:Nat):Int) != 2)=true:=by simp only[bne_iff_ne,ne_eq];omega
     generalize y % 64=y2 at *;generalize y / 64=y3 at *;have HF:Hid (refSign (l.drop p)=none):=by rw[HR.out,hst];rfl
     clear hst HI h2 HB hor hand;go_wp2_with fail
     go_ret3
     exact⟨by rw[HF.out];rfl,rfl⟩
   ·have r2:decide ((l.length:Int)≤(p:Int)+(i:Int))=true:=by simp;omega
    have r2':decide (l.length≤p+i)=true:=by simp;omega
    have HF:Hid (refSign (l.drop p)=none):=by
     rw[HR.out,HI.out,hf,List.drop_eq_nil_of_le (by omega)];rfl
    clear hi1 hik hi HI HB;go_wp2_with fail
    go_ret3
    exact⟨by rw[HF.out];rfl,rfl⟩
  ·have r1:decide ((i:Int)≤1)=false:=by simp;omega
   have r1':decide (i≤1)=false:=by simp;omega
   obtain rfl:i=1+1:=by omega
   have HF:Hid (refSign (l.drop p)=if c<128∨1114111<c∨(55296≤c∧c≤57343) then none else some (c,1+1)):=by rw[HR.out,HI.out];rfl
   have hc8:(c:Int)<8388608:=by have:=HB.out;omega
   have hh:(Hid (c<128∨1114111<c∨(55296≤c∧c≤57343))∧decide ((c:Int)<128)=true∧decide (c<128)=true)∨
     (Hid (c<128∨1114111<c∨(55296≤c∧c≤57343))∧decide ((c:Int)<128)=false∧decide (c<128)=false∧decide (1114111<(c:Int))=true∧decide (1114111<c)=true)∨
     (Hid (c<128∨1114111<c∨(55296≤c∧c≤57343))∧decide ((c:Int)<128)=false∧decide (c<128)=false∧decide (1114111<(c:Int))=false∧decide (1114111<c)=false∧decide (55296≤(c:Int))=true∧decide (55296≤c)=true∧decide ((c:Int)≤57343)=true∧decide (c≤57343)=true)∨
     (Hid (¬(c<128∨1114111<c∨(55296≤c∧c≤57343)))∧decide ((c:Int)<128)=false∧decide (c<128)=false∧decide (1114111<(c:Int))=false∧decide (1114111<c)=false∧decide (55296≤(c:Int))=true∧decide (55296≤c)=true∧decide ((c:Int)≤57343)=false∧decide (c≤57343)=false)∨
     (Hid (¬(c<128∨1114111<c∨(55296≤c∧c≤57343)))∧decide ((c:Int)<128)=false∧decide (c<128)=false∧decide (1114111<(c:Int))=false∧decide (1114111<c)=false∧decide (55296≤(c:Int))=false∧decide (55296≤c)=false):=by
    simp only[Hid,decide_eq_true_eq,decide_eq_false_iff_not];omega
   clear HI HB hi hi1 hik;rcases hh with ⟨HH,a1,a2⟩ | ⟨HH,a1,a2,a3,a4⟩ | ⟨HH,a1,a2,a3,a4,a5,a6,a7,a8⟩ | ⟨HH,a1,a2,a3,a4,a5,a6,a7,a8⟩ | ⟨HH,a1,a2,a3,a4,a5,a6⟩
   all_goals
    go_wp2_with fail
    go_ret3
    first
     | exact⟨by rw[HF.out,if_pos HH.out];rfl,rfl⟩
     | exact⟨by rw[HF.out,if_neg HH.out];rfl,rfl⟩
set_option maxRecDepth 100000 in
theorem rsign_2 (l:List UInt8) (p:Nat) (w:World) (hp:p<l.length) (hl:l.length≤1000000000) (h1:224≤(l[p]'hp).toNat) (h2:(l[p]'hp).toNat≤239):
  Calls Tryz.prog 179 #[.string (str l),.int .i64 p] w fun e w'=>e=.returned (sgV (refSign (l.drop p)))∧w'=w:=by
 have hsz:=str_size l;have ix:=fun w'=>idxS w' l p hp
 have hd:l.drop p=l[p]::l.drop (p+1):=List.drop_eq_getElem_cons hp;have hx:=(l[p]'hp).toNat_lt;have hr:refSign (l.drop p)=finS 2 2048 (contF 2 ((l[p]'hp).toNat % 16) (l.drop (p+1))):=by
  rw[hd];unfold refSign;simp only;rw[if_neg (by omega),if_neg (by omega),if_pos (by omega)]
 generalize (l[p]'hp).toNat=x at *;have hm:=i64mask x 15 4 (by omega) (by decide) (by decide);rw[show (2:Nat)^4=16 by decide] at hm;have hmi:bits .and .i64 (x:Int) 15=((x % 16:Nat):Int):=hm;clear hm hd;obtain⟨c0,hc0⟩:∃c0,c0=x % 16:=⟨_,rfl⟩;have hcb:c0<16:=by omega
 rw[←hc0] at hmi hr;have HR:=zH hr;have HC:=zH hc0;have t1:decide ((x:Int)<128)=false:=by simp;omega
 have t1':decide (x<128)=false:=by simp;omega
 have t2:decide (192≤(x:Int))=true:=by simp;omega
 have t2':decide (192≤x)=true:=by simp;omega
 have t3:decide ((x:Int)≤223)=false:=by simp;omega
 have t3':decide (x≤223)=false:=by simp;omega
 have t4:decide (224≤(x:Int))=true:=by simp;omega
 have t4':decide (224≤x)=true:=by simp;omega
 have t5:decide ((x:Int)≤239)=true:=by simp;omega
 have t5':decide (x≤239)=true:=by simp;omega
 have hxb:(x:Int)≤255:=by omega
 clear hr hc0 h1 h2 hx;go_enter Tryz.func179,Tryz.ntmps179;go_wp2_with fail;go_loopg [9,11] 2 (fun k vc vi wr=>∃(i c:Nat),vi=.int .i64 i∧vc=.int .i64 c∧1≤i∧i+k=2+1∧wr=w∧Hid (contF 2 c0 (l.drop (p+1))=contF (2+1 - i) c (l.drop (p+i)))∧Hid ((i=1→c<32)∧(i=2→c<2048)∧(i=3→c<131072)∧(i=4→c<8388608)));case atStart=>exact⟨1,c0,rfl,rfl,by omega,by omega,rfl,rfl,⟨by omega,by omega,by omega,by omega⟩⟩
 case round=>
  obtain⟨i,c,rfl,rfl,hi1,hik,rfl,HI,HB⟩:=hrel;clear ix t1 t1' t2 t2' t3 t3' t4 t4' t5 t5' hmi;by_cases hi:i≤2
  ·have r1:decide ((i:Int)≤2)=true:=by simp;omega
   have r1':decide (i≤2)=true:=by simp;omega
   have HP:=zB hi1 hik hi;have hcb2:c<131072:=by have:=HB.out;omega
   obtain⟨f,hf⟩:∃f,2+1 - i=f+1:=⟨2 - i,by omega⟩;have hf2:2+1 - (i+1)=f:=by omega
   have hi4:(i:Int)≤4:=by omega
   by_cases hb:p+i<l.length
   ·have r2:decide ((l.length:Int)≤(p:Int)+(i:Int))=false:=by simp;omega
    have r2':decide (l.length≤p+i)=false:=by simp;omega
    have ix:∀w',(Instr.index 9 (.string (str l)) (.int .i64 ((p:Int)+(i:Int)))).run Tryz.prog w'=.ok (.int .u8 ((l[p+i]'hb).toNat:Int)) w':=fun w'=>idxS w' l (p+i) hb
    have hy:=(l[p+i]'hb).toNat_lt;have hd2:l.drop (p+i)=l[p+i]::l.drop (p+(i+1)):=List.drop_eq_getElem_cons hb;have hst:contF 2 c0 (l.drop (p+1))=if (l[p+i]'hb).toNat / 64=2 then contF f (c * 64+(l[p+i]'hb).toNat % 64) (l.drop (p+(i+1))) else none:=by
     rw[HI.out,hf,hd2];rfl
    generalize (l[p+i]'hb).toNat=y at *;have hdv:(y:Int) / 64=((y / 64:Nat):Int):=by simp
    have hand:bits .and .u8 (y:Int) 63=((y % 64:Nat):Int):=by
     have:=(bits_u8 y 63 hy (by decide)).1;rw[show y &&& 63=y % 64 from Nat.and_two_pow_sub_one_eq_mod y 6] at this;exact this
    have hor:bits .or .i64 ((c:Int) * 64) ((y % 64:Nat):Int)=((c * 64+y % 64:Nat):Int):=i64orl c (y % 64) 6 (by omega) (by omega) (by decide);clear hd2 hi1 hik hi;by_cases h2:y / 64=2
    ·rw[if_pos h2] at hst;have hst2:Hid (contF 2 c0 (l.drop (p+1))=contF (2+1 - (i+1)) (c * 64+y % 64) (l.drop (p+(i+1)))):=by rw[hf2];exact hst
     have hyb:y % 64<64:=Nat.mod_lt _ (by decide);have HB2:Hid ((i+1=1→c * 64+y % 64<32)∧(i+1=2→c * 64+y % 64<2048)∧(i+1=3→c * 64+y % 64<131072)∧(i+1=4→c * 64+y % 64<8388608)):=by
      have:=HB.out;have:=HP.out;refine⟨by omega,by omega,by omega,by omega⟩
     have r3:(((y / 64:Nat):Int) != 2)=false:=by rw[h2];rfl
     generalize y % 64=y2 at *;generalize y / 64=y3 at *;obtain⟨c2,hc2⟩:∃c2,c * 64+y2=c2:=⟨_,rfl⟩;rw[hc2] at hor hst2 HB2;have hc3:(c2:Int)≤10000000:=by omega
     clear hst HI hc2 h2 HB;go_wp2_with fail;go_roundg (gk - 1);case measure=>have:=HP.out;omega
     case rel=>exact⟨i+1,c2,by go_num,rfl,by omega,by have:=HP.out;omega,rfl,hst2,HB2⟩
    ·rw[if_neg h2] at hst;have r3:(((y / 64:Nat):Int) != 2)=true:=by simp only[bne_iff_ne,ne_eq];omega
     generalize y % 64=y2 at *;generalize y / 64=y3 at *;have HF:Hid (refSign (l.drop p)=none):=by rw[HR.out,hst];rfl
     clear hst HI h2 HB hor hand;go_wp2_with fail
     go_ret3
     exact⟨by rw[HF.out];rfl,rfl⟩
   ·have r2:decide ((l.length:Int)≤(p:Int)+(i:Int))=true:=by simp;omega
    have r2':decide (l.length≤p+i)=true:=by simp;omega
    have HF:Hid (refSign (l.drop p)=none):=by
     rw[HR.out,HI.out,hf,List.drop_eq_nil_of_le (by omega)];rfl
    clear hi1 hik hi HI HB;go_wp2_with fail
    go_ret3
    exact⟨by rw[HF.out];rfl,rfl⟩
  ·have r1:decide ((i:Int)≤2)=false:=by simp;omega
   have r1':decide (i≤2)=false:=by simp;omega
   obtain rfl:i=2+1:=by omega
   have HF:Hid (refSign (l.drop p)=if c<2048∨1114111<c∨(55296≤c∧c≤57343) then none else some (c,2+1)):=by rw[HR.out,HI.out];rfl
   have hc8:(c:Int)<8388608:=by have:=HB.out;omega
   have hh:(Hid (c<2048∨1114111<c∨(55296≤c∧c≤57343))∧decide ((c:Int)<2048)=true∧decide (c<2048)=true)∨
     (Hid (c<2048∨1114111<c∨(55296≤c∧c≤57343))∧decide ((c:Int)<2048)=false∧decide (c<2048)=false∧decide (1114111<(c:Int))=true∧decide (1114111<c)=true)∨
     (Hid (c<2048∨1114111<c∨(55296≤c∧c≤57343))∧decide ((c:Int)<2048)=false∧decide (c<2048)=false∧decide (1114111<(c:Int))=false∧decide (1114111<c)=false∧decide (55296≤(c:Int))=true∧decide (55296≤c)=true∧decide ((c:Int)≤57343)=true∧decide (c≤57343)=true)∨
     (Hid (¬(c<2048∨1114111<c∨(55296≤c∧c≤57343)))∧decide ((c:Int)<2048)=false∧decide (c<2048)=false∧decide (1114111<(c:Int))=false∧decide (1114111<c)=false∧decide (55296≤(c:Int))=true∧decide (55296≤c)=true∧decide ((c:Int)≤57343)=false∧decide (c≤57343)=false)∨
     (Hid (¬(c<2048∨1114111<c∨(55296≤c∧c≤57343)))∧decide ((c:Int)<2048)=false∧decide (c<2048)=false∧decide (1114111<(c:Int))=false∧decide (1114111<c)=false∧decide (55296≤(c:Int))=false∧decide (55296≤c)=false):=by
    simp only[Hid,decide_eq_true_eq,decide_eq_false_iff_not];omega
   clear HI HB hi hi1 hik;rcases hh with ⟨HH,a1,a2⟩ | ⟨HH,a1,a2,a3,a4⟩ | ⟨HH,a1,a2,a3,a4,a5,a6,a7,a8⟩ | ⟨HH,a1,a2,a3,a4,a5,a6,a7,a8⟩ | ⟨HH,a1,a2,a3,a4,a5,a6⟩
   all_goals
    go_wp2_with fail
    go_ret3
    first
     | exact⟨by rw[HF.out,if_pos HH.out];rfl,rfl⟩
     | exact⟨by rw[HF.out,if_neg HH.out];rfl,rfl⟩
set_option maxRecDepth 100000 in
theorem rsign_3 (l:List UInt8) (p:Nat) (w:World) (hp:p<l.length) (hl:l.length≤1000000000) (h1:240≤(l[p]'hp).toNat) (h2:(l[p]'hp).toNat≤247):
  Calls Tryz.prog 179 #[.string (str l),.int .i64 p] w fun e w'=>e=.returned (sgV (refSign (l.drop p)))∧w'=w:=by
 have hsz:=str_size l;have ix:=fun w'=>idxS w' l p hp
 have hd:l.drop p=l[p]::l.drop (p+1):=List.drop_eq_getElem_cons hp;have hx:=(l[p]'hp).toNat_lt;have hr:refSign (l.drop p)=finS 3 65536 (contF 3 ((l[p]'hp).toNat % 8) (l.drop (p+1))):=by
  rw[hd];unfold refSign;simp only;rw[if_neg (by omega),if_neg (by omega),if_neg (by omega),if_pos (by omega)]
 generalize (l[p]'hp).toNat=x at *;have hm:=i64mask x 7 3 (by omega) (by decide) (by decide);rw[show (2:Nat)^3=8 by decide] at hm;have hmi:bits .and .i64 (x:Int) 7=((x % 8:Nat):Int):=hm;clear hm hd;obtain⟨c0,hc0⟩:∃c0,c0=x % 8:=⟨_,rfl⟩;have hcb:c0<8:=by omega
 rw[←hc0] at hmi hr;have HR:=zH hr;have HC:=zH hc0;have t1:decide ((x:Int)<128)=false:=by simp;omega
 have t1':decide (x<128)=false:=by simp;omega
 have t2:decide (192≤(x:Int))=true:=by simp;omega
 have t2':decide (192≤x)=true:=by simp;omega
 have t3:decide ((x:Int)≤223)=false:=by simp;omega
 have t3':decide (x≤223)=false:=by simp;omega
 have t4:decide (224≤(x:Int))=true:=by simp;omega
 have t4':decide (224≤x)=true:=by simp;omega
 have t5:decide ((x:Int)≤239)=false:=by simp;omega
 have t5':decide (x≤239)=false:=by simp;omega
 have t6:decide (240≤(x:Int))=true:=by simp;omega
 have t6':decide (240≤x)=true:=by simp;omega
 have t7:decide ((x:Int)≤247)=true:=by simp;omega
 have t7':decide (x≤247)=true:=by simp;omega
 have hxb:(x:Int)≤255:=by omega
 clear hr hc0 h1 h2 hx;go_enter Tryz.func179,Tryz.ntmps179;go_wp2_with fail;go_loopg [9,11] 3 (fun k vc vi wr=>∃(i c:Nat),vi=.int .i64 i∧vc=.int .i64 c∧1≤i∧i+k=3+1∧wr=w∧Hid (contF 3 c0 (l.drop (p+1))=contF (3+1 - i) c (l.drop (p+i)))∧Hid ((i=1→c<32)∧(i=2→c<2048)∧(i=3→c<131072)∧(i=4→c<8388608)));case atStart=>exact⟨1,c0,rfl,rfl,by omega,by omega,rfl,rfl,⟨by omega,by omega,by omega,by omega⟩⟩
 case round=>
  obtain⟨i,c,rfl,rfl,hi1,hik,rfl,HI,HB⟩:=hrel;clear ix t1 t1' t2 t2' t3 t3' t4 t4' t5 t5' t6 t6' t7 t7' hmi;by_cases hi:i≤3
  ·have r1:decide ((i:Int)≤3)=true:=by simp;omega
   have r1':decide (i≤3)=true:=by simp;omega
   have HP:=zB hi1 hik hi;have hcb2:c<131072:=by have:=HB.out;omega
   obtain⟨f,hf⟩:∃f,3+1 - i=f+1:=⟨3 - i,by omega⟩;have hf2:3+1 - (i+1)=f:=by omega
   have hi4:(i:Int)≤4:=by omega
   by_cases hb:p+i<l.length
   ·have r2:decide ((l.length:Int)≤(p:Int)+(i:Int))=false:=by simp;omega
    have r2':decide (l.length≤p+i)=false:=by simp;omega
    have ix:∀w',(Instr.index 9 (.string (str l)) (.int .i64 ((p:Int)+(i:Int)))).run Tryz.prog w'=.ok (.int .u8 ((l[p+i]'hb).toNat:Int)) w':=fun w'=>idxS w' l (p+i) hb
    have hy:=(l[p+i]'hb).toNat_lt;have hd2:l.drop (p+i)=l[p+i]::l.drop (p+(i+1)):=List.drop_eq_getElem_cons hb;have hst:contF 3 c0 (l.drop (p+1))=if (l[p+i]'hb).toNat / 64=2 then contF f (c * 64+(l[p+i]'hb).toNat % 64) (l.drop (p+(i+1))) else none:=by
     rw[HI.out,hf,hd2];rfl
    generalize (l[p+i]'hb).toNat=y at *;have hdv:(y:Int) / 64=((y / 64:Nat):Int):=by simp
    have hand:bits .and .u8 (y:Int) 63=((y % 64:Nat):Int):=by
     have:=(bits_u8 y 63 hy (by decide)).1;rw[show y &&& 63=y % 64 from Nat.and_two_pow_sub_one_eq_mod y 6] at this;exact this
    have hor:bits .or .i64 ((c:Int) * 64) ((y % 64:Nat):Int)=((c * 64+y % 64:Nat):Int):=i64orl c (y % 64) 6 (by omega) (by omega) (by decide);clear hd2 hi1 hik hi;by_cases h2:y / 64=2
    ·rw[if_pos h2] at hst;have hst2:Hid (contF 3 c0 (l.drop (p+1))=contF (3+1 - (i+1)) (c * 64+y % 64) (l.drop (p+(i+1)))):=by rw[hf2];exact hst
     have hyb:y % 64<64:=Nat.mod_lt _ (by decide);have HB2:Hid ((i+1=1→c * 64+y % 64<32)∧(i+1=2→c * 64+y % 64<2048)∧(i+1=3→c * 64+y % 64<131072)∧(i+1=4→c * 64+y % 64<8388608)):=by
      have:=HB.out;have:=HP.out;refine⟨by omega,by omega,by omega,by omega⟩
     have r3:(((y / 64:Nat):Int) != 2)=false:=by rw[h2];rfl
     generalize y % 64=y2 at *;generalize y / 64=y3 at *;obtain⟨c2,hc2⟩:∃c2,c * 64+y2=c2:=⟨_,rfl⟩;rw[hc2] at hor hst2 HB2;have hc3:(c2:Int)≤10000000:=by omega
     clear hst HI hc2 h2 HB;go_wp2_with fail;go_roundg (gk - 1);case measure=>have:=HP.out;omega
     case rel=>exact⟨i+1,c2,by go_num,rfl,by omega,by have:=HP.out;omega,rfl,hst2,HB2⟩
    ·rw[if_neg h2] at hst;have r3:(((y / 64:Nat):Int) != 2)=true:=by simp only[bne_iff_ne,ne_eq];omega
     generalize y % 64=y2 at *;generalize y / 64=y3 at *;have HF:Hid (refSign (l.drop p)=none):=by rw[HR.out,hst];rfl
     clear hst HI h2 HB hor hand;go_wp2_with fail
     go_ret3
     exact⟨by rw[HF.out];rfl,rfl⟩
   ·have r2:decide ((l.length:Int)≤(p:Int)+(i:Int))=true:=by simp;omega
    have r2':decide (l.length≤p+i)=true:=by simp;omega
    have HF:Hid (refSign (l.drop p)=none):=by
     rw[HR.out,HI.out,hf,List.drop_eq_nil_of_le (by omega)];rfl
    clear hi1 hik hi HI HB;go_wp2_with fail
    go_ret3
    exact⟨by rw[HF.out];rfl,rfl⟩
  ·have r1:decide ((i:Int)≤3)=false:=by simp;omega
   have r1':decide (i≤3)=false:=by simp;omega
   obtain rfl:i=3+1:=by omega
   have HF:Hid (refSign (l.drop p)=if c<65536∨1114111<c∨(55296≤c∧c≤57343) then none else some (c,3+1)):=by rw[HR.out,HI.out];rfl
   have hc8:(c:Int)<8388608:=by have:=HB.out;omega
   have hh:(Hid (c<65536∨1114111<c∨(55296≤c∧c≤57343))∧decide ((c:Int)<65536)=true∧decide (c<65536)=true)∨
     (Hid (c<65536∨1114111<c∨(55296≤c∧c≤57343))∧decide ((c:Int)<65536)=false∧decide (c<65536)=false∧decide (1114111<(c:Int))=true∧decide (1114111<c)=true)∨
     (Hid (c<65536∨1114111<c∨(55296≤c∧c≤57343))∧decide ((c:Int)<65536)=false∧decide (c<65536)=false∧decide (1114111<(c:Int))=false∧decide (1114111<c)=false∧decide (55296≤(c:Int))=true∧decide (55296≤c)=true∧decide ((c:Int)≤57343)=true∧decide (c≤57343)=true)∨
     (Hid (¬(c<65536∨1114111<c∨(55296≤c∧c≤57343)))∧decide ((c:Int)<65536)=false∧decide (c<65536)=false∧decide (1114111<(c:Int))=false∧decide (1114111<c)=false∧decide (55296≤(c:Int))=true∧decide (55296≤c)=true∧decide ((c:Int)≤57343)=false∧decide (c≤57343)=false)∨
     (Hid (¬(c<65536∨1114111<c∨(55296≤c∧c≤57343)))∧decide ((c:Int)<65536)=false∧decide (c<65536)=false∧decide (1114111<(c:Int))=false∧decide (1114111<c)=false∧decide (55296≤(c:Int))=false∧decide (55296≤c)=false):=by
    simp only[Hid,decide_eq_true_eq,decide_eq_false_iff_not];omega
   clear HI HB hi hi1 hik;rcases hh with ⟨HH,a1,a2⟩ | ⟨HH,a1,a2,a3,a4⟩ | ⟨HH,a1,a2,a3,a4,a5,a6,a7,a8⟩ | ⟨HH,a1,a2,a3,a4,a5,a6,a7,a8⟩ | ⟨HH,a1,a2,a3,a4,a5,a6⟩
   all_goals
    go_wp2_with fail
    go_ret3
    first
     | exact⟨by rw[HF.out,if_pos HH.out];rfl,rfl⟩
     | exact⟨by rw[HF.out,if_neg HH.out];rfl,rfl⟩
theorem rsign_any (l:List UInt8) (p:Nat) (w:World) (hp:p<l.length) (hl:l.length≤1000000000):
  Calls Tryz.prog 179 #[.string (str l),.int .i64 p] w fun e w'=>e=.returned (sgV (goodO (dec (l.drop p))))∧w'=w:=by
 rw[←refSign_eq _ (drop_ne l p hp)];by_cases h1:(l[p]'hp).toNat<128;·exact rsign_0 l p w hp hl h1
 ·by_cases h2:(l[p]'hp).toNat<192∨247<(l[p]'hp).toNat;·exact rsign_n l p w hp hl (by omega) h2
  ·by_cases h3:(l[p]'hp).toNat≤223;·exact rsign_1 l p w hp hl (by omega) h3
   ·by_cases h4:(l[p]'hp).toNat≤239;·exact rsign_2 l p w hp hl (by omega) h4
    ·exact rsign_3 l p w hp hl (by omega) (by omega)
end Go.Proofs.YtlbdklaggalgfaaGreatDoor
