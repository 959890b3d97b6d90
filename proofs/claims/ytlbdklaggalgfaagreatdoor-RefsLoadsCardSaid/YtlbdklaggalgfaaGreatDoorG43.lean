/- Texts Names RWordA Quotes RWordB RLetter RWordC -/
import Derived.Test.YtlbdklaggalgfaaGreatDoorRSign
set_option linter.unusedVariables false
set_option maxHeartbeats 60000000
namespace Go.Proofs.YtlbdklaggalgfaaGreatDoor
open Go.RowKit Go.Aq Go.Aq.Wd
theorem Ss_get (l:List (List UInt8)) (j:Nat) (h:j<l.length):(Ss l)[j]?=some (.string (str (l[j]'h))):=by
 simp[Ss,h]
end Go.Proofs.YtlbdklaggalgfaaGreatDoor
namespace Go.Aq
theorem str_app (a b:List UInt8):str a++str b=str (a++b):=by
 apply ByteArray.ext;show (str a++str b).data=_;rw[ByteArray.data_append];simp[str]
theorem str_appL (a b:List UInt8):str a++⟨b.toArray⟩=str (a++b):=str_app a b
theorem str_appR (a b:List UInt8):(⟨a.toArray⟩:ByteArray)++str b=str (a++b):=str_app a b
namespace Wd
theorem encL_ge:∀rs:List Nat,rs.length≤(encL rs).length
 | []=>by simp[encL]
 | c::t=>by
  have:=enc1_len c;have:=encL_ge t;rw[encL_cons,List.length_append,List.length_cons];omega
end Wd
end Go.Aq
namespace Go.Proofs.YtlbdklaggalgfaaGreatDoor
open Go.RowKit Go.Aq Go.Aq.Wd
end Go.Proofs.YtlbdklaggalgfaaGreatDoor
namespace Go.Aq.Wd
def Is (l:List Nat):List Value:=l.map fun c=>Value.int .i64 (c:Nat)
theorem Is_append (a b:List Nat):Is (a++b)=Is a++Is b:=by simp[Is]
theorem Is_get (l:List Nat) (j:Nat) (h:j<l.length):(Is l)[j]?=some (.int .i64 ((l[j]'h:Nat):Int)):=by simp[Is,h]
end Go.Aq.Wd
namespace Go.Proofs.YtlbdklaggalgfaaGreatDoor
open Go.RowKit Go.Aq Go.Aq.Wd
theorem sl_int:SliceTy Tryz.prog 101 3 (.int .i64 0) 1 8:=⟨Tryz.underlying101,by kernel_rfl,rfl,by decide⟩
theorem rcontrol_any (c:Nat) (hc:c≤2000000) (w:World):
  Calls Tryz.prog 180 #[.int .i64 c] w fun e w'=>e=.returned (.bool (low c))∧w'=w:=by
 go_enter Tryz.func180,Tryz.ntmps180;go_wp2_with fail;(all_goals go_ret);(all_goals refine⟨rb ?_,rfl⟩);all_goals (rw[Bool.eq_iff_iff];simp[low];omega)
def SgR (w w':World) (e:Ending):Option (List Nat)→Prop
 | none=>e=.returned (.tuple #[.slice none 0 0,.bool false])∧Chg [] w w'
 | some rs=>∃v,e=.returned (.tuple #[v,.bool true])∧Fresh w w' 3 1 v rs.length (Is rs)
theorem rsigns_any (l:List UInt8) (w:World) (hl:l.length≤1000000000):
  Calls Tryz.prog 212 #[.string (str l)] w fun e w'=>SgR w w' e (sigs l):=by
 have hsz:=str_size l;go_enter Tryz.func212,Tryz.ntmps212;go_wp2_with fail;go_loopg [4,5] l.length (fun k vo vi wr=>∃(pos:Nat) (pre:List Nat),vi=.int .i64 pos∧pos+k=l.length∧pre.length≤pos∧Fresh w wr 3 1 vo pre.length (Is pre)∧Pre l pos pre);case atStart=>exact⟨0,[],rfl,by omega,by simp,Fresh.nil w _ _,Pre.zero l⟩
 case round=>
  obtain⟨pos,pre,rfl,hpk,hpl,hf,hpre⟩:=hrel;obtain⟨ao,cap,hu4,hcap⟩:=hf.shape;subst hu4;by_cases hp:pos<l.length
  ·have r1:decide ((pos:Int)<(l.length:Int))=true:=by simp;omega
   have r1':decide (pos<l.length)=true:=by simp;omega
   have hsg:=rsign_any l pos wr hp hl;have hfit:=dec_fits l pos hp;have hdp:=dec_pos (l.drop pos);have hd1:=dec_fst (l.drop pos);have hst:=hpre.step hp;have hbd:=hpre.bad hp;generalize dec (l.drop pos)=d at *;obtain⟨c,n⟩:=d;simp only at *;have HST:=zH hst;have HBD:=zH hbd;have HP:=zA hpk hpl;have hpb:pre.length≤1000000000:=by omega
   clear hst hbd hpre hpk hpl;cases hb:Wd.bad (c,n) with
   | true=>
    have hs:=HBD.out hb;have HS:=zH hs;rw[show goodO (c,n)=none by unfold goodO;rw[hb];rfl] at hsg;clear hb HST HBD hs;go_wp2_with fail;refine hsg.mono ?_;rintro e w1 ⟨rfl,rfl⟩;unfold sgV;go_wp2_with fail;go_ret2;rw[HS.out];exact⟨rfl,hf.chg⟩
   | false=>
    have hs:=HST.out hb;rw[show goodO (c,n)=some (c,n) by unfold goodO;rw[hb];rfl] at hsg;have HS:=zH hs;clear hb HST HBD hs;go_wp2_with fail;refine hsg.mono ?_;rintro e w1 ⟨rfl,rfl⟩;unfold sgV;clear hsg;go_wp2_with (at_builtin;refine wpList_appF (w0:=w) rfl _ _ 101 rfl sl_int (by exact hf.to ((Chg.refl [] w1).alloc (.cells #[.int .i64 (c:Nat)] 3))) rfl (Sees.row (cs:=#[.int .i64 (c:Nat)]) (by exact Blk.new w1 _ 3) (m:=1) rfl) rfl (by simp[Value.oneCell']) (by omega) (by omega) ?_;intro v4 w4 hF4 c4);go_roundg (gk - n);case measure=>have:=HP.out;omega
    case rel=>exact⟨pos+n,pre++[c],by go_num,by have:=HP.out;omega,by have:=HP.out;simp;omega,by rw[Is_append];simpa[Is] using hF4,HS.out⟩
  ·have r1:decide ((pos:Int)<(l.length:Int))=false:=by simp;omega
   have r1':decide (pos<l.length)=false:=by simp;omega
   have hs:=hpre.all hp;have HS:=zH hs;clear hs hpre hpk hpl;go_wp2_with fail;go_ret2;rw[HS.out];exact⟨_,rfl,hf⟩
theorem writ_le (c:Nat):(writ c).length≤6:=by
 have:=enc1_len c;unfold writ hexC;(repeat' split);(all_goals simp);omega
end Go.Proofs.YtlbdklaggalgfaaGreatDoor
namespace Go.Aq.Wd
def rwrit (c:Nat):List UInt8:=if special c then writ c else []
theorem hex_strip:∀c,c<160→(if (hexL [UInt8.ofNat c]).headD 0=48 then (hexL [UInt8.ofNat c]).drop 1 else hexL [UInt8.ofNat c])=hexC c:=by decide+kernel
theorem hex_first:∀c,c<160→((hexL [UInt8.ofNat c]).headD 0=48↔c<16):=by decide+kernel
theorem Bc_ofNat (c:Nat) (h:c<256):Value.int .u8 (c:Nat)=Bc (UInt8.ofNat c):=by
 unfold Bc;rw[u8n c h]
end Go.Aq.Wd
namespace Go.Proofs.YtlbdklaggalgfaaGreatDoor
open Go.RowKit Go.Aq Go.Aq.Wd
theorem rwritten_any (c:Nat) (hc:c≤2000000) (w:World):
  Calls Tryz.prog 211 #[.int .i64 c] w fun e w'=>e=.returned (.string (str (rwrit c)))∧Chg [] w w':=by
 by_cases h34:c=34
 ·subst h34;have r1:∀w:World,(convert 38 9 (.slice (some ⟨w.heap.size,0,none⟩) 2 2)).run Tryz.prog (w.alloc (.cells #[.int .u8 92,.int .u8 34] 5))=.ok (.string (str [92,34])) (w.alloc (.cells #[.int .u8 92,.int .u8 34] 5)):=fun w=>run_str8 (Sees.row (cs:=#[.int .u8 92,.int .u8 34]) (by exact Blk.new _ _ _) rfl)
  have e1:rwrit 34=[92,34]:=by decide
  rw[e1];go_enter Tryz.func211,Tryz.ntmps211;go_wp2_with fail;go_ret;exact⟨rfl,(Chg.refl _ _).alloc _⟩
 ·by_cases h92:c=92
  ·subst h92;have r1:∀w:World,(convert 38 9 (.slice (some ⟨w.heap.size,0,none⟩) 2 2)).run Tryz.prog (w.alloc (.cells #[.int .u8 92,.int .u8 92] 5))=.ok (.string (str [92,92])) (w.alloc (.cells #[.int .u8 92,.int .u8 92] 5)):=fun w=>run_str8 (Sees.row (cs:=#[.int .u8 92,.int .u8 92]) (by exact Blk.new _ _ _) rfl)
   have e1:rwrit 92=[92,92]:=by decide
   rw[e1];go_enter Tryz.func211,Tryz.ntmps211;go_wp2_with fail;go_ret;exact⟨rfl,(Chg.refl _ _).alloc _⟩
  ·have t1:((c:Int)==34)=false:=jB (by omega);have t2:((c:Int)==92)=false:=jB (by omega);by_cases h10:c=10
   ·subst h10;have e1:rwrit 10=[92,110]:=by decide
    rw[e1];clear t1 t2;go_enter Tryz.func211,Tryz.ntmps211;go_wp2_with fail;go_ret;exact⟨rfl,Chg.refl _ _⟩
   ·have t3:((c:Int)==10)=false:=jB (by omega);have hct:=rcontrol_any c hc;cases hlow:low c with
    | false=>
     have e1:rwrit c=[]:=by simp[rwrit,special,hlow,h34,h92]
     rw[e1];rw[hlow] at hct;clear h34 h92 h10 hlow e1;go_enter Tryz.func211,Tryz.ntmps211;go_wp2_with fail;refine (hct _).mono ?_;rintro e w1 ⟨rfl,rfl⟩;go_wp2_with fail;go_ret;exact⟨rfl,Chg.refl _ _⟩
    | true=>
     have h160:c<160:=by simp only[low,Bool.or_eq_true,Bool.and_eq_true,decide_eq_true_eq] at hlow;omega
     have e1:rwrit c=[92,117,123]++hexC c++[125]:=by
      have:special c=true:=by simp[special,hlow]
      rw[rwrit,this,if_pos rfl,writ,if_neg (by omega),if_neg h10,hlow,if_pos rfl]
     rw[hlow] at hct;rw[e1];have hhx:=fun (w:World)=>refHex_any (w.alloc (.cells #[Bc (UInt8.ofNat c)] 5)) (.slice (some ⟨w.heap.size,0,none⟩) 1 1) 1 [UInt8.ofNat c] (Sees.row (cs:=#[Bc (UInt8.ofNat c)]) (by exact Blk.new _ _ _) rfl) (by decide)
     have hstrip:=hex_strip c h160;have hfirst:=hex_first c h160;have hlen:=hexL_length [UInt8.ofNat c];have eb:=Bc_ofNat c (by omega);rw[←eb] at hhx;have hch:(hexL [UInt8.ofNat c]).length=2:=hlen;clear hlow e1 h34 h92 h10 eb;generalize hexL [UInt8.ofNat c]=H at *;have hpos:0<H.length:=by omega
     have hdH:H.headD 0=H[0]:=by cases H;(simp at hch);rfl
     have ix:∀w',(Instr.index 9 (.string (str H)) (.int .i64 0)).run Tryz.prog w'=.ok (.int .u8 ((H[0]).toNat:Int)) w':=fun w'=>idxS w' H 0 hpos
     have hyl:=(H[0]).toNat_lt;have hH48:H[0]=48↔(H[0]).toNat=48:=by
      constructor;·intro h;rw[h];rfl
      ·intro h;have:=u8e _ _ h;rw[←this];rfl
     rw[hdH] at hfirst hstrip;have hsH:=str_size H;rw[hch] at hsH;by_cases h0:H[0]=48
     ·rw[if_pos h0] at hstrip;have hn:=hH48.1 h0;rw[hn] at ix;have e3:=str_from H 1;rw[hch,hstrip] at e3;have e4:(⟨#[92,117,123]⟩:ByteArray)++str (hexC c)=str ([92,117,123]++hexC c):=str_appR _ _;have e5:str ([92,117,123]++hexC c)++⟨#[125]⟩=str ([92,117,123]++hexC c++[125]):=str_appL _ _;have hcl:(hexC c).length≤2:=by unfold hexC;split <;> simp
      have s1:=str_size (hexC c);have s2:(str ([92,117,123]++hexC c)).size≤6:=by rw[str_size];simp;omega
      clear hstrip hfirst hdH hH48 h0 hlen hch;generalize [92,117,123]++hexC c=X at *;generalize hexC c=Y at *;go_enter Tryz.func211,Tryz.ntmps211;go_wp2_with fail;refine (hct _).mono ?_;rintro e w1 ⟨rfl,rfl⟩;go_wp2_with fail;refine (hhx _).mono ?_;rintro e w2 ⟨rfl,c2⟩;have c3:=((Chg.refl [] w1).alloc (.cells #[.int .u8 (c:Nat)] 5)).nil c2;clear hhx hct;go_wp2_with fail;go_ret;exact⟨rfl,c3⟩
     ·rw[if_neg h0] at hstrip;have hn:((H[0]).toNat:Int)≠48:=fun h=>h0 (hH48.2 (by omega))
      have t5:(((H[0]).toNat:Int)==48)=false:=by rw[beq_eq_false_iff_ne];exact hn
      have e4:(⟨#[92,117,123]⟩:ByteArray)++str H=str ([92,117,123]++H):=str_appR _ _;have e5:str ([92,117,123]++H)++⟨#[125]⟩=str ([92,117,123]++H++[125]):=str_appL _ _;have s2:(str ([92,117,123]++H)).size≤6:=by rw[str_size];simp;omega
      rw[←hstrip];clear hstrip hfirst hdH hH48 h0 hlen hch hn;generalize (H[0]).toNat=y at *;generalize [92,117,123]++H=X at *;go_enter Tryz.func211,Tryz.ntmps211;go_wp2_with fail;refine (hct _).mono ?_;rintro e w1 ⟨rfl,rfl⟩;go_wp2_with fail;refine (hhx _).mono ?_;rintro e w2 ⟨rfl,c2⟩;have c3:=((Chg.refl [] w1).alloc (.cells #[.int .u8 (c:Nat)] 5)).nil c2;clear hhx hct;go_wp2_with fail;go_ret;exact⟨rfl,c3⟩
theorem letter_iff (c:Nat):letter c=true↔(((97≤c∧c≤122)∨(65≤c∧c≤90)∨(48≤c∧c≤57)∨c=45∨c=95∨c=46∨c=47∨(192≤c∧c≤591∧c≠215∧c≠247)∨(880≤c∧c≤1279)∨(19968≤c∧c≤40959))):=by
 simp only[letter,Bool.or_eq_true,Bool.and_eq_true,decide_eq_true_eq,beq_iff_eq,bne_iff_ne,ne_eq];omega
theorem letter_yes (c:Nat) (h:(((97≤c∧c≤122)∨(65≤c∧c≤90)∨(48≤c∧c≤57)∨c=45∨c=95∨c=46∨c=47∨(192≤c∧c≤591∧c≠215∧c≠247)∨(880≤c∧c≤1279)∨(19968≤c∧c≤40959)))):true=letter c:=((letter_iff c).2 h).symm
theorem letter_no (c:Nat) (h:¬(((97≤c∧c≤122)∨(65≤c∧c≤90)∨(48≤c∧c≤57)∨c=45∨c=95∨c=46∨c=47∨(192≤c∧c≤591∧c≠215∧c≠247)∨(880≤c∧c≤1279)∨(19968≤c∧c≤40959)))):false=letter c:=(Bool.eq_false_iff.2 fun h2=>h ((letter_iff c).1 h2)).symm
set_option maxRecDepth 100000 in
theorem rletter_any (c:Nat) (hc:c≤2000000) (w:World):
  Calls Tryz.prog 213 #[.int .i64 c] w fun e w'=>e=.returned (.bool (letter c))∧w'=w:=by
 have hv:c≤44∨c=45∨c=46∨c=47∨(48≤c∧c≤57)∨(58≤c∧c≤64)∨(65≤c∧c≤90)∨(91≤c∧c≤94)∨c=95∨c=96∨(97≤c∧c≤122)∨(123≤c∧c≤191)∨(192≤c∧c≤214)∨c=215∨(216≤c∧c≤246)∨c=247∨(248≤c∧c≤591)∨(592≤c∧c≤879)∨(880≤c∧c≤1279)∨(1280≤c∧c≤19967)∨(19968≤c∧c≤40959)∨(40960≤c∧c≤2000000):=by omega
 rcases hv with h | h | h | h | h | h | h | h | h | h | h | h | h | h | h | h | h | h | h | h | h | h
 all_goals as_aux_lemma=>
  first
   | have HL:=zH (letter_no c (by omega))
   | have HL:=zH (letter_yes c (by omega))
  first
   | have t1:decide (97≤(c:Int))=false∧decide (97≤c)=false:=by simp only[decide_eq_false_iff_not];omega
   | have t1:decide (97≤(c:Int))=true∧decide (97≤c)=true:=by simp only[decide_eq_true_eq];omega
  obtain⟨t1,n1⟩:=t1;first
   | have t2:decide ((c:Int)≤122)=false∧decide (c≤122)=false:=by simp only[decide_eq_false_iff_not];omega
   | have t2:decide ((c:Int)≤122)=true∧decide (c≤122)=true:=by simp only[decide_eq_true_eq];omega
  obtain⟨t2,n2⟩:=t2;first
   | have t3:decide (65≤(c:Int))=false∧decide (65≤c)=false:=by simp only[decide_eq_false_iff_not];omega
   | have t3:decide (65≤(c:Int))=true∧decide (65≤c)=true:=by simp only[decide_eq_true_eq];omega
  obtain⟨t3,n3⟩:=t3;first
   | have t4:decide ((c:Int)≤90)=false∧decide (c≤90)=false:=by simp only[decide_eq_false_iff_not];omega
   | have t4:decide ((c:Int)≤90)=true∧decide (c≤90)=true:=by simp only[decide_eq_true_eq];omega
  obtain⟨t4,n4⟩:=t4;first
   | have t5:decide (48≤(c:Int))=false∧decide (48≤c)=false:=by simp only[decide_eq_false_iff_not];omega
   | have t5:decide (48≤(c:Int))=true∧decide (48≤c)=true:=by simp only[decide_eq_true_eq];omega
  obtain⟨t5,n5⟩:=t5;first
   | have t6:decide ((c:Int)≤57)=false∧decide (c≤57)=false:=by simp only[decide_eq_false_iff_not];omega
   | have t6:decide ((c:Int)≤57)=true∧decide (c≤57)=true:=by simp only[decide_eq_true_eq];omega
  obtain⟨t6,n6⟩:=t6;first
   | have t7:decide (192≤(c:Int))=false∧decide (192≤c)=false:=by simp only[decide_eq_false_iff_not];omega
   | have t7:decide (192≤(c:Int))=true∧decide (192≤c)=true:=by simp only[decide_eq_true_eq];omega
  obtain⟨t7,n7⟩:=t7;first
   | have t8:decide ((c:Int)≤591)=false∧decide (c≤591)=false:=by simp only[decide_eq_false_iff_not];omega
   | have t8:decide ((c:Int)≤591)=true∧decide (c≤591)=true:=by simp only[decide_eq_true_eq];omega
  obtain⟨t8,n8⟩:=t8;first
   | have t9:decide (880≤(c:Int))=false∧decide (880≤c)=false:=by simp only[decide_eq_false_iff_not];omega
   | have t9:decide (880≤(c:Int))=true∧decide (880≤c)=true:=by simp only[decide_eq_true_eq];omega
  obtain⟨t9,n9⟩:=t9;first
   | have t10:decide ((c:Int)≤1279)=false∧decide (c≤1279)=false:=by simp only[decide_eq_false_iff_not];omega
   | have t10:decide ((c:Int)≤1279)=true∧decide (c≤1279)=true:=by simp only[decide_eq_true_eq];omega
  obtain⟨t10,n10⟩:=t10;first
   | have t11:decide (19968≤(c:Int))=false∧decide (19968≤c)=false:=by simp only[decide_eq_false_iff_not];omega
   | have t11:decide (19968≤(c:Int))=true∧decide (19968≤c)=true:=by simp only[decide_eq_true_eq];omega
  obtain⟨t11,n11⟩:=t11;first
   | have t12:decide ((c:Int)≤40959)=false∧decide (c≤40959)=false:=by simp only[decide_eq_false_iff_not];omega
   | have t12:decide ((c:Int)≤40959)=true∧decide (c≤40959)=true:=by simp only[decide_eq_true_eq];omega
  obtain⟨t12,n12⟩:=t12;first
   | have t13:((c:Int)==45)=false:=jB (by omega)
   | have t13:((c:Int)==45)=true:=by rw[beq_iff_eq];omega
  first
   | have t14:((c:Int)==95)=false:=jB (by omega)
   | have t14:((c:Int)==95)=true:=by rw[beq_iff_eq];omega
  first
   | have t15:((c:Int)==46)=false:=jB (by omega)
   | have t15:((c:Int)==46)=true:=by rw[beq_iff_eq];omega
  first
   | have t16:((c:Int)==47)=false:=jB (by omega)
   | have t16:((c:Int)==47)=true:=by rw[beq_iff_eq];omega
  first
   | have t17:((c:Int) != 215)=true:=jN (by omega)
   | have t17:((c:Int) != 215)=false:=by rw[bne_eq_false_iff_eq];omega
  first
   | have t18:((c:Int) != 247)=true:=jN (by omega)
   | have t18:((c:Int) != 247)=false:=by rw[bne_eq_false_iff_eq];omega
  clear h hc;go_enter Tryz.func213,Tryz.ntmps213;go_wp2_with fail;(all_goals go_ret);all_goals exact⟨rb HL.out,rfl⟩
end Go.Proofs.YtlbdklaggalgfaaGreatDoor
namespace Go.Aq.Wd
theorem dbl_iff:∀rs:List Nat,dbl rs=true↔∃i,i+1<rs.length∧rs.getD i 0=47∧rs.getD (i+1) 0=47
 | []=>by simp[dbl]
 | [a]=>by simp[dbl]
 | a::b::t=>by
  have ih:=dbl_iff (b::t);rw[dbl,Bool.or_eq_true,ih];constructor
  ·rintro (h | ⟨i,h1,h2,h3⟩)
   ·simp only[Bool.and_eq_true,beq_iff_eq] at h;exact⟨0,by simp,by simp[h.1],by simp[h.2]⟩
   ·exact⟨i+1,by simp at h1 ⊢;omega,by simpa using h2,by simpa using h3⟩
  ·rintro⟨i,h1,h2,h3⟩;cases i with
   | zero=>left;simp at h2 h3;simp[h2,h3]
   | succ i=>right;exact⟨i,by simp at h1 ⊢;omega,by simpa using h2,by simpa using h3⟩
theorem sigs_ok {l:List UInt8} {rs:List Nat} (h:sigs l=some rs):rs.length≤l.length∧∀c∈rs,c≤2000000:=by
 obtain⟨he,ok⟩:=sigs_enc h;refine⟨by rw[he];exact encL_ge rs,fun c hc=>okR_le (ok c hc)⟩
end Go.Aq.Wd
namespace Go.Proofs.YtlbdklaggalgfaaGreatDoor
open Go.RowKit Go.Aq Go.Aq.Wd
set_option maxRecDepth 100000 in
theorem rname_any (l:List UInt8) (w:World) (hl:l.length≤1000000000):
  Calls Tryz.prog 183 #[.string (str l)] w fun e w'=>e=.returned (.bool (nameL l))∧Chg [] w w':=by
 have hsg:=rsigns_any l w hl;cases hs:sigs l with
 | none=>
  rw[show nameL l=false by unfold nameL;rw[hs]];rw[hs] at hsg;clear hs;go_enter Tryz.func183,Tryz.ntmps183;go_wp2_with fail;refine hsg.mono ?_;rintro e w1 ⟨rfl,c1⟩;go_wp2_with fail;go_ret;exact⟨rfl,c1⟩
 | some rs=>
  rw[nameL_of hs];obtain⟨hge,hok⟩:=sigs_ok hs;rw[hs] at hsg;have HOK:=zH hok;clear hs hok;obtain⟨n,HN⟩:∃n,Hid (rs.length=n):=⟨_,rfl⟩;rw[HN.out] at hge;by_cases hlen:n<1∨40<n
  ·have HF:Hid (nameR rs=false):=by
    show nameR rs=false;unfold nameR;rw[HN.out];rcases hlen with h | h
    ·rw[show decide (1≤n)=false by simp;omega];rfl
    ·rw[show decide (n≤40)=false by simp;omega];simp
   have hh:(decide ((n:Int)<1)=true∧decide (n<1)=true)∨(decide ((n:Int)<1)=false∧decide (n<1)=false∧decide (40<(n:Int))=true∧decide (40<n)=true):=by
    simp only[decide_eq_true_eq,decide_eq_false_iff_not];omega
   clear hlen;rcases hh with ⟨t1,t2⟩ | ⟨t1,t2,t3,t4⟩
   all_goals
    go_enter Tryz.func183,Tryz.ntmps183;go_wp2_with fail;refine hsg.mono ?_;rintro e w1 ⟨v,rfl,hf⟩;rw[HN.out] at hf;have c1:=hf.chg;obtain⟨ao,cap,rfl,hcap⟩:=hf.shape;clear hsg hf;go_wp2_with fail;go_ret;exact⟨by rw[HF.out];rfl,c1⟩
  ·have t1:decide ((n:Int)<1)=false:=by simp;omega
   have t1':decide (n<1)=false:=by simp;omega
   have t2:decide (40<(n:Int))=false:=by simp;omega
   have t2':decide (40<n)=false:=by simp;omega
   obtain⟨m,rfl⟩:∃m,n=m+1:=⟨n - 1,by omega⟩;have hm40:m+1≤40:=by omega
   have h0l:0<rs.length:=by rw[HN.out];omega
   have hml:m<rs.length:=by rw[HN.out];omega
   have hhd:rs.headD 0=rs[0]:=by cases rs;(simp at h0l);rfl
   have hlast:rs.getLastD 0=rs[m]:=by
    rw[List.getLastD_eq_getLast?,List.getLast?_eq_getElem?,HN.out,Nat.add_sub_cancel,List.getElem?_eq_getElem hml];rfl
   have hNR:nameR rs=(rs.all letter&&!dbl rs&&!headBad rs[0]&&!lastBad rs[m]):=by
    unfold nameR;rw[HN.out,hhd,hlast,show decide (1≤m+1)=true by simp,show decide (m+1≤40)=true by simp;omega];simp
   have hR:=zH hNR;have hh:Hid (headBad rs[0]=true∨lastBad rs[m]=true)∧((((rs[0]:Nat):Int)==45)=true∨((((rs[0]:Nat):Int)==45)=false∧(((rs[0]:Nat):Int)==46)=true)∨((((rs[0]:Nat):Int)==45)=false∧(((rs[0]:Nat):Int)==46)=false∧(((rs[0]:Nat):Int)==47)=true)∨
     ((((rs[0]:Nat):Int)==45)=false∧(((rs[0]:Nat):Int)==46)=false∧(((rs[0]:Nat):Int)==47)=false∧(((rs[m]:Nat):Int)==46)=true)∨
     ((((rs[0]:Nat):Int)==45)=false∧(((rs[0]:Nat):Int)==46)=false∧(((rs[0]:Nat):Int)==47)=false∧(((rs[m]:Nat):Int)==46)=false∧(((rs[m]:Nat):Int)==47)=true))∨
     Hid (headBad rs[0]=false∧lastBad rs[m]=false)∧(((rs[0]:Nat):Int)==45)=false∧(((rs[0]:Nat):Int)==46)=false∧(((rs[0]:Nat):Int)==47)=false∧(((rs[m]:Nat):Int)==46)=false∧(((rs[m]:Nat):Int)==47)=false:=by
    simp only[Hid,headBad,lastBad,Bool.or_eq_true,Bool.or_eq_false_iff,beq_iff_eq,beq_eq_false_iff_ne,ne_eq];omega
   clear hNR hhd hlast hlen;have g0:=Is_get rs 0 h0l;have gm:=Is_get rs m hml;rcases hh with ⟨HB,hh⟩ | ⟨HB,t3,t4,t5,t6,t7⟩
   ·have HF:Hid (nameR rs=false):=by
     show nameR rs=false;rw[hR.out];rcases HB.out with h | h <;> rw[h] <;> simp
    clear hR HB;generalize rs[0]=a at *;generalize rs[m]=b at *;rcases hh with t3 | ⟨t3,t4⟩ | ⟨t3,t4,t5⟩ | ⟨t3,t4,t5,t6⟩ | ⟨t3,t4,t5,t6,t7⟩
    all_goals
     go_enter Tryz.func183,Tryz.ntmps183;go_wp2_with fail;refine hsg.mono ?_;rintro e w1 ⟨v,rfl,hf⟩;rw[HN.out] at hf;have c1:=hf.chg;obtain⟨g,off,cap,rfl,hcap,hcell⟩:=hf.own.sees.at1 (by omega);have x0:=hcell 0 (by omega);have xm:=hcell m (by omega);rw[g0] at x0;rw[gm] at xm;simp only[Nat.add_zero] at x0;clear hsg hf hcell g0 gm;go_wp2_with fail;go_ret;exact⟨by rw[HF.out];rfl,c1⟩
   ·clear hR;have HR:Hid (nameR rs=(rs.all letter&&!dbl rs)):=by
     show _=_;unfold nameR;obtain⟨b1,b2⟩:=HB.out;have hhd:rs.headD 0=rs[0]:=by cases rs;(simp at h0l);rfl
     have hlast:rs.getLastD 0=rs[m]:=by
      rw[List.getLastD_eq_getLast?,List.getLast?_eq_getElem?,HN.out,Nat.add_sub_cancel,List.getElem?_eq_getElem hml];rfl
     rw[HN.out,hhd,hlast,b1,b2,show decide (1≤m+1)=true by simp,show decide (m+1≤40)=true by simp;omega];simp
    clear HB;generalize rs[0]=a at *;generalize rs[m]=b at *;go_enter Tryz.func183,Tryz.ntmps183;go_wp2_with fail;refine hsg.mono ?_;rintro e w1 ⟨v,rfl,hf⟩;rw[HN.out] at hf;have c1:=hf.chg;obtain⟨g,off,cap,rfl,hcap,hcell⟩:=hf.own.sees.at1 (by omega);have x0:=hcell 0 (by omega);have xm:=hcell m (by omega);rw[g0] at x0;rw[gm] at xm;simp only[Nat.add_zero] at x0;have HC:Hid (∀j (h:j<rs.length),w1.cell? ⟨g,off+j,none⟩=some (.int .i64 ((rs[j]'h:Nat):Int))):=fun j h=>by
     rw[hcell j (by rw[HN.out] at h;exact h)];exact Is_get rs j h
    clear hsg hf hcell g0 gm;go_wp2_with fail;clear x0 xm t1 t1' t2 t2' t3 t4 t5 t6 t7;go_loopg [5] (m+1) (fun k vi wr=>∃(i:Nat),vi=.int .i64 i∧i+k=m+1∧wr=w1∧Hid ((∀j (h:j<rs.length),j<i→letter rs[j]=true)∧(∀j,j+1<i→¬(rs.getD j 0=47∧rs.getD (j+1) 0=47))));case atStart=>exact⟨0,rfl,by omega,rfl,fun j _ h=>absurd h (by omega),fun j h=>absurd h (by omega)⟩
    case round=>
     obtain⟨i,rfl,hik,rfl,HA⟩:=hrel;by_cases hi:i<m+1
     ·have r1:decide ((i:Int)<((m+1:Nat):Int))=true:=by simp;omega
      have r1b:decide ((i:Int)<(m:Int)+1)=true:=by simp;omega
      have r1':decide (i<m+1)=true:=by simp;omega
      have hil:i<rs.length:=by rw[HN.out];exact hi
      have x0:=HC.out i hil;have hc2:=HOK.out _ (List.getElem_mem hil);have hgd:rs.getD i 0=rs[i]:=by simp[List.getD,hil]
      have ib:(i:Int)≤40:=by omega
      have hlet:=rletter_any rs[i] hc2 wr;cases hL:letter rs[i] with
      | false=>
       rw[hL] at hlet;have HF:Hid (nameR rs=false):=by
        show nameR rs=false;rw[HR.out];rw[List.all_eq_false.2 ⟨rs[i],List.getElem_mem hil,by rw[hL];decide⟩];rfl
       have HI:=zH hi;clear hL hgd hik;generalize rs[i]=c at *;go_wp2_with fail;refine hlet.mono ?_;rintro e w3 ⟨rfl,rfl⟩;go_wp2_with fail;go_ret;exact⟨by rw[HF.out];rfl,c1⟩
      | true=>
       rw[hL] at hlet;have HLet:=zH hL;by_cases h0:i=0
       ·subst h0;have x0b:wr.cell? ⟨g,off,none⟩=some (.int .i64 ((rs[0]:Nat):Int)):=x0;have HN2:Hid ((∀j (h:j<rs.length),j<0+1→letter rs[j]=true)∧(∀j,j+1<0+1→¬(rs.getD j 0=47∧rs.getD (j+1) 0=47))):=⟨fun j h hj=>by
         obtain rfl:j=0:=by omega
         exact HLet.out,fun j hj=>absurd hj (by omega)⟩
        have HP:=zH hik;clear hL hgd hik HA HLet;generalize rs[0]=c at *;go_wp2_with fail;refine hlet.mono ?_;rintro e w3 ⟨rfl,rfl⟩;go_wp2_with fail;go_roundg (gk - 1);case measure=>have:=HP.out;omega
        case rel=>exact⟨0+1,by go_num,by have:=HP.out;omega,rfl,HN2⟩
       ·obtain⟨p,rfl⟩:∃p,i=p+1:=⟨i - 1,by omega⟩;have hpl:p<rs.length:=by omega
        have x1:=HC.out p hpl;have hgp:rs.getD p 0=rs[p]:=by simp[List.getD,hpl]
        have t8:decide (0<((p+1:Nat):Int))=true:=decide_eq_true (by omega);have t8b:decide (0<(p:Int)+1)=true:=decide_eq_true (by omega);have t8':decide (0<p+1)=true:=by simp
        have e1:((p+1:Nat):Int) - 1=(p:Int):=by omega
        have hh:Hid (rs[p+1]=47∧rs[p]=47)∧(((rs[p+1]:Nat):Int)==47)=true∧(((rs[p]:Nat):Int)==47)=true∨
          Hid (¬(rs[p]=47∧rs[p+1]=47))∧(((rs[p+1]:Nat):Int)==47)=true∧(((rs[p]:Nat):Int)==47)=false∨
          Hid (¬(rs[p]=47∧rs[p+1]=47))∧(((rs[p+1]:Nat):Int)==47)=false:=by
         simp only[Hid,beq_iff_eq,beq_eq_false_iff_ne,ne_eq];omega
        have HP:=zC hik hi hgd hgp;rcases hh with ⟨HH,z1,z2⟩ | ⟨HH,z1,z2⟩ | ⟨HH,z1⟩
        ·have HF:Hid (nameR rs=false):=by
          show nameR rs=false;rw[HR.out];rw[show dbl rs=true from (dbl_iff rs).2 ⟨p,hil,by rw[hgp];exact HH.out.2,by rw[hgd];exact HH.out.1⟩];simp
         have hp40:(p:Int)+1≤40:=by omega
         clear hL hgd hik hgp HH HP HLet;generalize rs[p+1]=c at *;generalize rs[p]=d at *;go_wp2_with fail;refine hlet.mono ?_;rintro e w3 ⟨rfl,rfl⟩;go_wp2_with fail;go_ret;exact⟨by rw[HF.out];rfl,c1⟩
        all_goals
         have HN2:Hid ((∀j (h:j<rs.length),j<p+1+1→letter rs[j]=true)∧(∀j,j+1<p+1+1→¬(rs.getD j 0=47∧rs.getD (j+1) 0=47))):=⟨fun j h hj=>by
          by_cases hj2:j<p+1;·exact HA.out.1 j h hj2
          ·obtain rfl:j=p+1:=by omega
           exact HLet.out,fun j hj=>by
          by_cases hj2:j+1<p+1;·exact HA.out.2 j hj2
          ·obtain rfl:j=p:=by omega
           rw[hgp,hgd];exact HH.out⟩
         have hp40:(p:Int)+1≤40:=by omega
         clear hL hgd hik hgp HH HA HLet;generalize rs[p+1]=c at *;generalize rs[p]=d at *;go_wp2_with fail;refine hlet.mono ?_;rintro e w3 ⟨rfl,rfl⟩;go_wp2_with fail;go_roundg (gk - 1);case measure=>have:=HP.out;omega
         case rel=>exact⟨p+1+1,by go_num,by have:=HP.out;omega,rfl,HN2⟩
     ·have r1:decide ((i:Int)<((m+1:Nat):Int))=false:=by simp;omega
      have r1b:decide ((i:Int)<(m:Int)+1)=false:=by simp;omega
      have r1':decide (i<m+1)=false:=by simp;omega
      have HF:Hid (nameR rs=true):=by
       show nameR rs=true;rw[HR.out];obtain⟨b1,b2⟩:=HA.out;have e1:rs.all letter=true:=by
        rw[List.all_eq_true];intro x hx;obtain⟨j,hj,rfl⟩:=List.getElem_of_mem hx;exact b1 j hj (by have:=HN.out;omega)
       have e2:dbl rs=false:=by
        rw[Bool.eq_false_iff];intro h;obtain⟨j,h1,h2,h3⟩:=(dbl_iff rs).1 h;exact b2 j (by have:=HN.out;omega) ⟨h2,h3⟩
       rw[e1,e2];rfl
      clear hi hik;go_wp2_with fail;go_ret;exact⟨by rw[HF.out];rfl,c1⟩
theorem place_cut (rs:List Nat) (j:Nat) (hj:j<rs.length):((encL rs).take ((encL (rs.take j)).length+(enc1 rs[j]).length)).drop (encL (rs.take j)).length=enc1 rs[j]:=by
 have h1:(encL (rs.take (j+1)))=encL (rs.take j)++enc1 rs[j]:=by
  rw[List.take_succ_eq_append_getElem hj,encL_append];simp[encL]
 have h2:=place_take rs (j+1);rw[h1,List.length_append] at h2;rw[h2];exact List.drop_left
theorem writs_len (rs:List Nat):(rs.flatMap writ).length≤6 * rs.length:=by
 induction rs with
 | nil=>simp
 | cons c t ih=>have:=writ_le c;simp only[List.flatMap_cons,List.length_append,List.length_cons];omega
theorem rquote_any (l:List UInt8) (w:World) (hl:l.length≤1000000000):
  Calls Tryz.prog 186 #[.string (str l)] w fun e w'=>e=.returned (.tuple #[.string (str (quoteL l).1),.int .i64 (quoteL l).2])∧Chg [] w w':=by
 have hsz:=str_size l;have hsg:=rsigns_any l w hl;cases hs:sigs l with
 | none=>
  rw[show quoteL l=([],4) by unfold quoteL;rw[hs]];rw[hs] at hsg;clear hs;go_enter Tryz.func186,Tryz.ntmps186;go_wp2_with fail;refine hsg.mono ?_;rintro e w1 ⟨rfl,c1⟩;go_wp2_with fail;go_ret2;exact⟨rfl,c1⟩
 | some rs=>
  rw[show quoteL l=(quoteR rs,0) by unfold quoteL;rw[hs]];rw[hs] at hsg;obtain⟨he,ok⟩:=sigs_enc hs;have HE:=zH he;have HOK:=zH ok;have hge:=encL_ge rs;rw[←he] at hge;clear he ok hs;go_enter Tryz.func186,Tryz.ntmps186;go_wp2_with fail;refine hsg.mono ?_;rintro e w1 ⟨v,rfl,hf⟩;have c1:=hf.chg;obtain⟨ao,cap,rfl,hcap⟩:=hf.shape;clear hsg hf;go_wp2_with fail;go_loopg [6,7] l.length (fun k vo vp wr=>∃(pos j:Nat),vo=.string (str ([34]++(rs.take j).flatMap writ))∧vp=.int .i64 pos∧pos+k=l.length∧j≤rs.length∧pos=(encL (rs.take j)).length∧Chg [] w1 wr);case atStart=>exact⟨0,0,rfl,rfl,by omega,by omega,by simp[encL],Chg.refl _ _⟩
  case round=>
   obtain⟨pos,j,rfl,rfl,hpk,hjl,hpos,hc⟩:=hrel;have hlt:=place_lt rs j hjl;rw[←hpos,←HE.out] at hlt;have hwl:=writs_len (rs.take j);rw[List.length_take] at hwl;have so:(str ([34]++(rs.take j).flatMap writ)).size≤6000000001:=by rw[str_size,List.length_append];simp only[List.length_cons,List.length_nil];omega
   by_cases hp:pos<l.length
   ·have r2:decide ((pos:Int)<(l.length:Int))=true:=by simp;omega
    have r2':decide (pos<l.length)=true:=by simp;omega
    have hj:=hlt.1 hp;have hsg:=rsign_any l pos wr hp hl;obtain⟨hd,hnp⟩:=place_step rs HOK.out j hj;have hcut:=place_cut rs j hj;rw[←hpos,←HE.out] at hd hcut;rw[←hpos] at hnp;have hb:=not_bad_enc _ (HOK.out _ (List.getElem_mem hj));have hfit:=dec_fits l pos hp;rw[hd] at hfit;simp only at hfit;rw[hd,show goodO (rs[j],(enc1 rs[j]).length)=some (rs[j],(enc1 rs[j]).length) by unfold goodO;rw[hb];rfl] at hsg;have hl4:=enc1_len rs[j];have hc2:rs[j]≤2000000:=okR_le (HOK.out _ (List.getElem_mem hj));have hex:=str_extract l pos (pos+(enc1 rs[j]).length);rw[hcut] at hex;have hts:(rs.take (j+1)).flatMap writ=(rs.take j).flatMap writ++writ rs[j]:=by rw[List.take_succ_eq_append_getElem hj,List.flatMap_append];simp
    have hap:str ([34]++(rs.take j).flatMap writ)++str (writ rs[j])=str ([34]++(rs.take (j+1)).flatMap writ):=by rw[hts,←List.append_assoc];exact str_app _ _
    have sw:(str (writ rs[j])).size≤6:=by rw[str_size];exact writ_le _
    have hwr:=fun w'=>rwritten_any rs[j] hc2 w'
    have hplain:=writ_plain rs[j];have hspec:=writ_special rs[j];have hrw:rwrit rs[j]=if special rs[j] then writ rs[j] else []:=rfl
    generalize (enc1 rs[j]).length=nn at *;generalize rs[j]=c at *;generalize [34]++(rs.take j).flatMap writ=out at *;generalize ho2:[34]++(rs.take (j+1)).flatMap writ=out2 at *;have HO:=zH ho2;clear ho2;have HP:=zC hpk hnp hj hfit;have hpn:(pos:Int)+(nn:Int)≤(l.length:Int):=by omega
    have hpn':pos+nn≤l.length:=by omega
    clear hd hb hlt hpk hnp hpos hj hfit hcut hts hwl;cases hsp:special c with
    | true=>
     rw[hsp,if_pos rfl] at hrw;obtain⟨t,ht⟩:=hspec hsp;have e1:(str (writ c)).toList.isEmpty=false:=by rw[str_toList,ht];rfl
     rw[hrw] at hwr;clear hrw ht hspec hplain hsp hex;generalize writ c=W at *;go_wp2_with fail;refine hsg.mono ?_;rintro e w2 ⟨rfl,rfl⟩;unfold sgV;clear hsg;go_wp2_with fail;refine (hwr w2).mono ?_;rintro e w3 ⟨rfl,c3⟩;clear hwr;go_wp2_with fail;go_roundg (gk - nn);case measure=>have:=HP.out;omega
     case rel=>exact⟨pos+nn,j+1,by rw[HO.out],by go_num,by have:=HP.out;omega,by have:=HP.out;omega,HP.out.2.1.symm,hc.nil c3⟩
    | false=>
     rw[hsp] at hrw;have e1:(str (rwrit c)).toList.isEmpty=true:=by rw[str_toList,hrw];rfl
     rw[←hplain hsp] at hex;clear hrw hspec hplain hsp;generalize writ c=W at *;generalize rwrit c=W0 at *;go_wp2_with fail;refine hsg.mono ?_;rintro e w2 ⟨rfl,rfl⟩;unfold sgV;clear hsg;go_wp2_with fail;refine (hwr w2).mono ?_;rintro e w3 ⟨rfl,c3⟩;clear hwr;go_wp2_with fail;go_roundg (gk - nn);case measure=>have:=HP.out;omega
     case rel=>exact⟨pos+nn,j+1,by rw[HO.out],by go_num,by have:=HP.out;omega,by have:=HP.out;omega,HP.out.2.1.symm,hc.nil c3⟩
   ·have r2:decide ((pos:Int)<(l.length:Int))=false:=by simp;omega
    have r2':decide (pos<l.length)=false:=by simp;omega
    have hj:rs.length≤j:=by have:=mt hlt.2 hp;omega
    have hap:str ([34]++(rs.take j).flatMap writ)++⟨#[34]⟩=str (quoteR rs):=by rw[List.take_of_length_le hj];exact str_appL _ [34]
    have cw:=c1.nil hc;clear hpos hlt hj hwl;generalize [34]++(rs.take j).flatMap writ=out at *;go_wp2_with fail;go_ret2;exact⟨rfl,cw⟩
end Go.Proofs.YtlbdklaggalgfaaGreatDoor
