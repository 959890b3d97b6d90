/- NamesP RWordA RLetter RWordC OrD OrE -/
import Derived.Test.YtlidiclfpklliaaGreatDoorRSign
set_option linter.unusedSimpArgs false
set_option linter.unusedVariables false
set_option maxHeartbeats 60000000
namespace Go.Aq
namespace Wd
theorem encL_ge:∀rs:List Nat,rs.length≤(encL rs).length
 | []=>by simp[encL]
 | c::t=>by
  have:=enc1_len c
  have:=encL_ge t
  rw[encL_cons,List.length_append,List.length_cons];omega
end Wd
end Go.Aq
namespace Go.Aq.Wd
def Is (l:List Nat):List Value:=l.map fun c=>Value.int .i64 (c:Nat)
theorem Is_append (a b:List Nat):Is (a++b)=Is a++Is b:=by simp[Is]
theorem Is_get (l:List Nat) (j:Nat) (h:j<l.length):(Is l)[j]?=some (.int .i64 ((l[j]'h:Nat):Int)):=by simp[Is,h]
end Go.Aq.Wd
namespace Go.Proofs.YtlidiclfpklliaaGreatDoor
open Go.RowKit Go.Aq Go.Aq.Wd
theorem rcontrol_any (c:Nat) (hc:c≤2000000) (w:World):
  Calls Tryz.prog 274 #[.int .i64 c] w fun e w'=>e=.returned (.bool (low c))∧w'=w:=by
 go_enter Tryz.func274,Tryz.ntmps274
 go_wp2_with fail
 all_goals go_ret
 all_goals refine⟨rb ?_,rfl⟩
 all_goals (rw[Bool.eq_iff_iff];simp[low];omega)
def SgR (w w':World) (e:Ending):Option (List Nat)→Prop
 | none=>e=.returned (.tuple #[.slice none 0 0,.bool false])∧Chg [] w w'
 | some rs=>∃v,e=.returned (.tuple #[v,.bool true])∧Fresh w w' 3 1 v rs.length (Is rs)
theorem rsigns_any (l:List UInt8) (w:World) (hl:l.length≤1000000000):
  Calls Tryz.prog 272 #[.string (str l)] w fun e w'=>SgR w w' e (sigs l):=by
 have hsz:=str_size l
 go_enter Tryz.func272,Tryz.ntmps272
 go_wp2_with fail
 go_loopg [4,5] l.length (fun k vo vi wr=>∃(pos:Nat) (pre:List Nat),vi=.int .i64 pos∧pos+k=l.length∧pre.length≤pos∧Fresh w wr 3 1 vo pre.length (Is pre)∧Pre l pos pre)
 case atStart=>exact⟨0,[],rfl,by omega,by simp,Fresh.nil w _ _,Pre.zero l⟩
 case round=>
  obtain⟨pos,pre,rfl,hpk,hpl,hf,hpre⟩:=hrel
  obtain⟨ao,cap,hu4,hcap⟩:=hf.shape
  subst hu4
  by_cases hp:pos<l.length
  ·have r1:decide ((pos:Int)<(l.length:Int))=true:=by simp;omega
   have r1':decide (pos<l.length)=true:=by simp;omega
   have hsg:=rsign_any l pos wr hp hl
   have hfit:=dec_fits l pos hp
   have hdp:=dec_pos (l.drop pos)
   have hd1:=dec_fst (l.drop pos)
   have hst:=hpre.step hp
   have hbd:=hpre.bad hp
   generalize dec (l.drop pos)=d at *
   obtain⟨c,n⟩:=d
   simp only at *
   have HST:=zH hst
   have HBD:=zH hbd
   have HP:=zA hpk hpl
   have hpb:pre.length≤1000000000:=by omega
   clear hst hbd hpre hpk hpl
   cases hb:Wd.bad (c,n) with
   | true=>
    have hs:=HBD.out hb
    have HS:=zH hs
    rw[show goodO (c,n)=none by unfold goodO;rw[hb];rfl] at hsg
    clear hb HST HBD hs
    go_wp2_with fail
    refine hsg.mono ?_
    rintro e w1 ⟨rfl,rfl⟩
    unfold sgV
    go_wp2_with fail
    go_ret2
    rw[HS.out]
    exact⟨rfl,hf.chg⟩
   | false=>
    have hs:=HST.out hb
    rw[show goodO (c,n)=some (c,n) by unfold goodO;rw[hb];rfl] at hsg
    have HS:=zH hs
    clear hb HST HBD hs
    go_wp2_with fail
    refine hsg.mono ?_
    rintro e w1 ⟨rfl,rfl⟩
    unfold sgV
    clear hsg
    go_wp2_with (at_builtin;refine wpList_appF (w0:=w) rfl _ _ 108 rfl sl_int (by exact hf.to ((Chg.refl [] w1).alloc (.cells #[.int .i64 (c:Nat)] 3))) rfl (Sees.row (cs:=#[.int .i64 (c:Nat)]) (by exact Blk.new w1 _ 3) (m:=1) rfl) rfl (by simp[Value.oneCell']) (by omega) (by omega) ?_;intro v4 w4 hF4 c4)
    go_roundg (gk - n)
    case measure=>have:=HP.out;omega
    case rel=>exact⟨pos+n,pre++[c],by go_num,by have:=HP.out;omega,by have:=HP.out;simp;omega,by rw[Is_append];simpa[Is] using hF4,HS.out⟩
  ·have r1:decide ((pos:Int)<(l.length:Int))=false:=by simp;omega
   have r1':decide (pos<l.length)=false:=by simp;omega
   have hs:=hpre.all hp
   have HS:=zH hs
   clear hs hpre hpk hpl
   go_wp2_with fail
   go_ret2
   rw[HS.out]
   exact⟨_,rfl,hf⟩
theorem letter_iff (c:Nat):letter c=true↔(((97≤c∧c≤122)∨(65≤c∧c≤90)∨(48≤c∧c≤57)∨c=45∨c=95∨c=46∨c=47∨(192≤c∧c≤591∧c≠215∧c≠247)∨(880≤c∧c≤1279)∨(19968≤c∧c≤40959))):=by
 simp only[letter,Bool.or_eq_true,Bool.and_eq_true,decide_eq_true_eq,beq_iff_eq,bne_iff_ne,ne_eq];omega
theorem letter_yes (c:Nat) (h:(((97≤c∧c≤122)∨(65≤c∧c≤90)∨(48≤c∧c≤57)∨c=45∨c=95∨c=46∨c=47∨(192≤c∧c≤591∧c≠215∧c≠247)∨(880≤c∧c≤1279)∨(19968≤c∧c≤40959)))):true=letter c:=((letter_iff c).2 h).symm
theorem letter_no (c:Nat) (h:¬(((97≤c∧c≤122)∨(65≤c∧c≤90)∨(48≤c∧c≤57)∨c=45∨c=95∨c=46∨c=47∨(192≤c∧c≤591∧c≠215∧c≠247)∨(880≤c∧c≤1279)∨(19968≤c∧c≤40959)))):false=letter c:=(Bool.eq_false_iff.2 fun h2=>h ((letter_iff c).1 h2)).symm
set_option maxRecDepth 100000 in
theorem rletter_any (c:Nat) (hc:c≤2000000) (w:World):
  Calls Tryz.prog 273 #[.int .i64 c] w fun e w'=>e=.returned (.bool (letter c))∧w'=w:=by
 have hv:c≤44∨c=45∨c=46∨c=47∨(48≤c∧c≤57)∨(58≤c∧c≤64)∨(65≤c∧c≤90)∨(91≤c∧c≤94)∨c=95∨c=96∨(97≤c∧c≤122)∨(123≤c∧c≤191)∨(192≤c∧c≤214)∨c=215∨(216≤c∧c≤246)∨c=247∨(248≤c∧c≤591)∨(592≤c∧c≤879)∨(880≤c∧c≤1279)∨(1280≤c∧c≤19967)∨(19968≤c∧c≤40959)∨(40960≤c∧c≤2000000):=by omega
 rcases hv with h | h | h | h | h | h | h | h | h | h | h | h | h | h | h | h | h | h | h | h | h | h
 all_goals as_aux_lemma=>
  first
   | have HL:=zH (letter_no c (by omega))
   | have HL:=zH (letter_yes c (by omega))
  first
   | have t1:decide (97≤(c:Int))=false∧decide (97≤c)=false:=by simp only[decide_eq_false_iff_not];omega
   | have t1:decide (97≤(c:Int))=true∧decide (97≤c)=true:=by simp only[decide_eq_true_eq];omega
  obtain⟨t1,n1⟩:=t1
  first
   | have t2:decide ((c:Int)≤122)=false∧decide (c≤122)=false:=by simp only[decide_eq_false_iff_not];omega
   | have t2:decide ((c:Int)≤122)=true∧decide (c≤122)=true:=by simp only[decide_eq_true_eq];omega
  obtain⟨t2,n2⟩:=t2
  first
   | have t3:decide (65≤(c:Int))=false∧decide (65≤c)=false:=by simp only[decide_eq_false_iff_not];omega
   | have t3:decide (65≤(c:Int))=true∧decide (65≤c)=true:=by simp only[decide_eq_true_eq];omega
  obtain⟨t3,n3⟩:=t3
  first
   | have t4:decide ((c:Int)≤90)=false∧decide (c≤90)=false:=by simp only[decide_eq_false_iff_not];omega
   | have t4:decide ((c:Int)≤90)=true∧decide (c≤90)=true:=by simp only[decide_eq_true_eq];omega
  obtain⟨t4,n4⟩:=t4
  first
   | have t5:decide (48≤(c:Int))=false∧decide (48≤c)=false:=by simp only[decide_eq_false_iff_not];omega
   | have t5:decide (48≤(c:Int))=true∧decide (48≤c)=true:=by simp only[decide_eq_true_eq];omega
  obtain⟨t5,n5⟩:=t5
  first
   | have t6:decide ((c:Int)≤57)=false∧decide (c≤57)=false:=by simp only[decide_eq_false_iff_not];omega
   | have t6:decide ((c:Int)≤57)=true∧decide (c≤57)=true:=by simp only[decide_eq_true_eq];omega
  obtain⟨t6,n6⟩:=t6
  first
   | have t7:decide (192≤(c:Int))=false∧decide (192≤c)=false:=by simp only[decide_eq_false_iff_not];omega
   | have t7:decide (192≤(c:Int))=true∧decide (192≤c)=true:=by simp only[decide_eq_true_eq];omega
  obtain⟨t7,n7⟩:=t7
  first
   | have t8:decide ((c:Int)≤591)=false∧decide (c≤591)=false:=by simp only[decide_eq_false_iff_not];omega
   | have t8:decide ((c:Int)≤591)=true∧decide (c≤591)=true:=by simp only[decide_eq_true_eq];omega
  obtain⟨t8,n8⟩:=t8
  first
   | have t9:decide (880≤(c:Int))=false∧decide (880≤c)=false:=by simp only[decide_eq_false_iff_not];omega
   | have t9:decide (880≤(c:Int))=true∧decide (880≤c)=true:=by simp only[decide_eq_true_eq];omega
  obtain⟨t9,n9⟩:=t9
  first
   | have t10:decide ((c:Int)≤1279)=false∧decide (c≤1279)=false:=by simp only[decide_eq_false_iff_not];omega
   | have t10:decide ((c:Int)≤1279)=true∧decide (c≤1279)=true:=by simp only[decide_eq_true_eq];omega
  obtain⟨t10,n10⟩:=t10
  first
   | have t11:decide (19968≤(c:Int))=false∧decide (19968≤c)=false:=by simp only[decide_eq_false_iff_not];omega
   | have t11:decide (19968≤(c:Int))=true∧decide (19968≤c)=true:=by simp only[decide_eq_true_eq];omega
  obtain⟨t11,n11⟩:=t11
  first
   | have t12:decide ((c:Int)≤40959)=false∧decide (c≤40959)=false:=by simp only[decide_eq_false_iff_not];omega
   | have t12:decide ((c:Int)≤40959)=true∧decide (c≤40959)=true:=by simp only[decide_eq_true_eq];omega
  obtain⟨t12,n12⟩:=t12
  first
   | have t13:((c:Int)==45)=false:=jB (by omega)
   | have t13:((c:Int)==45)=true:=by rw[beq_iff_eq];omega
  first
   | have t14:((c:Int)==95)=false:=jB (by omega)
   | have t14:((c:Int)==95)=true:=by rw[beq_iff_eq];omega
  first
   | have t15:((c:Int)==46)=false:=jB (by omega)
   | have t15:((c:Int)==46)=true:=by rw[beq_iff_eq];omega
  first
   | have t16:((c:Int)==47)=false:=jB (by omega)
   | have t16:((c:Int)==47)=true:=by rw[beq_iff_eq];omega
  first
   | have t17:((c:Int) != 215)=true:=jN (by omega)
   | have t17:((c:Int) != 215)=false:=by rw[bne_eq_false_iff_eq];omega
  first
   | have t18:((c:Int) != 247)=true:=jN (by omega)
   | have t18:((c:Int) != 247)=false:=by rw[bne_eq_false_iff_eq];omega
  clear h hc
  go_enter Tryz.func273,Tryz.ntmps273
  go_wp2_with fail
  all_goals go_ret
  all_goals exact⟨rb HL.out,rfl⟩
end Go.Proofs.YtlidiclfpklliaaGreatDoor
namespace Go.Aq.Wd
theorem dbl_iff:∀rs:List Nat,dbl rs=true↔∃i,i+1<rs.length∧rs.getD i 0=47∧rs.getD (i+1) 0=47
 | []=>by simp[dbl]
 | [a]=>by simp[dbl]
 | a::b::t=>by
  have ih:=dbl_iff (b::t)
  rw[dbl,Bool.or_eq_true,ih]
  constructor
  ·rintro (h | ⟨i,h1,h2,h3⟩)
   ·simp only[Bool.and_eq_true,beq_iff_eq] at h
    exact⟨0,by simp,by simp[h.1],by simp[h.2]⟩
   ·exact⟨i+1,by simp at h1 ⊢;omega,by simpa using h2,by simpa using h3⟩
  ·rintro⟨i,h1,h2,h3⟩
   cases i with
   | zero=>left;simp at h2 h3;simp[h2,h3]
   | succ i=>right;exact⟨i,by simp at h1 ⊢;omega,by simpa using h2,by simpa using h3⟩
theorem sigs_ok {l:List UInt8} {rs:List Nat} (h:sigs l=some rs):rs.length≤l.length∧∀c∈rs,c≤2000000:=by
 obtain⟨he,ok⟩:=sigs_enc h
 refine⟨by rw[he];exact encL_ge rs,fun c hc=>okR_le (ok c hc)⟩
end Go.Aq.Wd
namespace Go.Proofs.YtlidiclfpklliaaGreatDoor
section
open Go.RowKit Go.Aq Go.Aq.Wd
theorem rtext_any (l:List UInt8) (w:World) (hl:l.length≤1000000000):
  Calls Tryz.prog 214 #[.string (str l)] w fun e w'=>e=.returned (.bool (textL l))∧Chg [] w w':=by
 have hsg:=rsigns_any l w hl
 cases hs:sigs l with
 | none=>
  rw[show textL l=false by unfold textL;rw[hs]]
  rw[hs] at hsg
  clear hs
  go_enter Tryz.func214,Tryz.ntmps214
  go_wp2_with fail
  refine hsg.mono ?_
  rintro e w1 ⟨rfl,c1⟩
  go_wp2_with fail
  go_loopg [5] 0 (fun k vi wr=>vi=.int .i64 0∧wr=w1)
  case atStart=>exact⟨rfl,rfl⟩
  case round=>
   obtain⟨rfl,rfl⟩:=hrel
   go_wp2_with fail
   go_ret
   exact⟨rfl,c1⟩
 | some rs=>
  rw[textL_of hs]
  obtain⟨hge,hok⟩:=sigs_ok hs
  rw[hs] at hsg
  have HOK:=zH hok
  clear hs hok
  obtain⟨n,HN⟩:∃n,Hid (rs.length=n):=⟨_,rfl⟩
  rw[HN.out] at hge
  go_enter Tryz.func214,Tryz.ntmps214
  go_wp2_with fail
  refine hsg.mono ?_
  rintro e w1 ⟨v,rfl,hf⟩
  rw[HN.out] at hf
  have c1:=hf.chg
  obtain⟨ao,cap,rfl,hcap⟩:=hf.shape
  clear hsg
  go_wp2_with fail
  go_loopg [5] n (fun k vi wr=>∃(i:Nat),vi=.int .i64 i∧i+k=n∧wr=w1∧Hid ((rs.take i).all (fun c=>!low c || c==10)=true))
  case atStart=>exact⟨0,rfl,by omega,rfl,rfl⟩
  case round=>
   obtain⟨i,rfl,hik,rfl,HA⟩:=hrel
   by_cases hi:i<n
   ·have r1:decide ((i:Int)<(n:Int))=true:=by simp;omega
    have r1':decide (i<n)=true:=by simp;omega
    have hil:i<rs.length:=by rw[HN.out];exact hi
    obtain⟨g,off,cap',hv',hc',hcell⟩:=hf.own.sees.at1 (by omega)
    simp only[Value.slice.injEq,true_and] at hv'
    obtain⟨rfl,rfl⟩:=hv'
    have x0:=hcell i hi
    rw[Is_get _ _ hil] at x0
    have hts:=List.take_succ_eq_append_getElem hil
    have hmem:rs[i]∈rs:=List.getElem_mem hil
    have hc2:=HOK.out _ hmem
    generalize rs[i]=c at *
    have HP:=zB hik hts hmem
    have hib:(i:Int)≤1000000000:=by omega
    clear hik hts hmem hcell hil
    by_cases hlow:low c=true
    ·by_cases h10:c=10
     ·subst h10
      go_wp2_with fail
      refine (rcontrol_any 10 (by omega) wr).mono ?_
      rintro e w3 ⟨rfl,rfl⟩
      rw[hlow]
      go_wp2_with fail
      go_roundg (gk - 1)
      case measure=>have:=HP.out;omega
      case rel=>exact⟨i+1,by go_num,by have:=HP.out;omega,rfl,by show _=true;rw[HP.out.2.1,List.all_append,HA.out];simp⟩
     ·have t10:((c:Int) != 10)=true:=jN (by omega)
      have HF:Hid (textR rs=false):=by
       show textR rs=false
       unfold textR
       rw[Bool.and_eq_false_iff];right
       rw[List.all_eq_false]
       exact⟨c,HP.out.2.2,by simp[hlow,h10]⟩
      clear h10
      go_wp2_with fail
      refine (rcontrol_any c hc2 wr).mono ?_
      rintro e w3 ⟨rfl,rfl⟩
      rw[hlow]
      go_wp2_with fail
      go_ret
      exact⟨by rw[HF.out];rfl,c1⟩
    ·have hlow':low c=false:=by simpa using hlow
     clear hlow
     go_wp2_with fail
     refine (rcontrol_any c hc2 wr).mono ?_
     rintro e w3 ⟨rfl,rfl⟩
     rw[hlow']
     go_wp2_with fail
     go_roundg (gk - 1)
     case measure=>have:=HP.out;omega
     case rel=>exact⟨i+1,by go_num,by have:=HP.out;omega,rfl,by show _=true;rw[HP.out.2.1,List.all_append,HA.out];simp[hlow']⟩
   ·have r1:decide ((i:Int)<(n:Int))=false:=by simp;omega
    have r1':decide (i<n)=false:=by simp;omega
    have ha:=HA.out
    rw[List.take_of_length_le (by rw[HN.out];omega)] at ha
    have HF:Hid (textR rs=decide (n≤200)):=by show _=_;unfold textR;rw[ha,HN.out];simp
    have e2:decide ((n:Int)≤200)=decide (n≤200):=by simp;omega
    clear ha hi hik
    generalize decide (n≤200)=b at *
    go_wp2_with fail
    go_ret
    exact⟨by rw[HF.out];rfl,c1⟩
set_option maxRecDepth 100000 in
theorem rname_any (l:List UInt8) (w:World) (hl:l.length≤1000000000):
  Calls Tryz.prog 213 #[.string (str l)] w fun e w'=>e=.returned (.bool (nameL l))∧Chg [] w w':=by
 have hsg:=rsigns_any l w hl
 cases hs:sigs l with
 | none=>
  rw[show nameL l=false by unfold nameL;rw[hs]]
  rw[hs] at hsg
  clear hs
  go_enter Tryz.func213,Tryz.ntmps213
  go_wp2_with fail
  refine hsg.mono ?_
  rintro e w1 ⟨rfl,c1⟩
  go_wp2_with fail
  go_ret
  exact⟨rfl,c1⟩
 | some rs=>
  rw[nameL_of hs]
  obtain⟨hge,hok⟩:=sigs_ok hs
  rw[hs] at hsg
  have HOK:=zH hok
  clear hs hok
  obtain⟨n,HN⟩:∃n,Hid (rs.length=n):=⟨_,rfl⟩
  rw[HN.out] at hge
  by_cases hlen:n<1∨40<n
  ·have HF:Hid (nameR rs=false):=by
    show nameR rs=false
    unfold nameR
    rw[HN.out]
    rcases hlen with h | h
    ·rw[show decide (1≤n)=false by simp;omega];rfl
    ·rw[show decide (n≤40)=false by simp;omega];simp
   have hh:(decide ((n:Int)<1)=true∧decide (n<1)=true)∨(decide ((n:Int)<1)=false∧decide (n<1)=false∧decide (40<(n:Int))=true∧decide (40<n)=true):=by
    simp only[decide_eq_true_eq,decide_eq_false_iff_not];omega
   clear hlen
   rcases hh with ⟨t1,t2⟩ | ⟨t1,t2,t3,t4⟩
   all_goals
    go_enter Tryz.func213,Tryz.ntmps213
    go_wp2_with fail
    refine hsg.mono ?_
    rintro e w1 ⟨v,rfl,hf⟩
    rw[HN.out] at hf
    have c1:=hf.chg
    obtain⟨ao,cap,rfl,hcap⟩:=hf.shape
    clear hsg hf
    go_wp2_with fail
    go_ret
    exact⟨by rw[HF.out];rfl,c1⟩
  ·have t1:decide ((n:Int)<1)=false:=by simp;omega
   have t1':decide (n<1)=false:=by simp;omega
   have t2:decide (40<(n:Int))=false:=by simp;omega
   have t2':decide (40<n)=false:=by simp;omega
   obtain⟨m,rfl⟩:∃m,n=m+1:=⟨n - 1,by omega⟩
   have hm40:m+1≤40:=by omega
   have h0l:0<rs.length:=by rw[HN.out];omega
   have hml:m<rs.length:=by rw[HN.out];omega
   have hhd:rs.headD 0=rs[0]:=by cases rs;(simp at h0l);rfl
   have hlast:rs.getLastD 0=rs[m]:=by
    rw[List.getLastD_eq_getLast?,List.getLast?_eq_getElem?,HN.out,Nat.add_sub_cancel,List.getElem?_eq_getElem hml];rfl
   have hNR:nameR rs=(rs.all letter&&!dbl rs&&!headBad rs[0]&&!lastBad rs[m]):=by
    unfold nameR
    rw[HN.out,hhd,hlast,show decide (1≤m+1)=true by simp,show decide (m+1≤40)=true by simp;omega]
    simp
   have hR:=zH hNR
   have hh:Hid (headBad rs[0]=true∨lastBad rs[m]=true)∧((((rs[0]:Nat):Int)==45)=true∨((((rs[0]:Nat):Int)==45)=false∧(((rs[0]:Nat):Int)==46)=true)∨((((rs[0]:Nat):Int)==45)=false∧(((rs[0]:Nat):Int)==46)=false∧(((rs[0]:Nat):Int)==47)=true)∨
     ((((rs[0]:Nat):Int)==45)=false∧(((rs[0]:Nat):Int)==46)=false∧(((rs[0]:Nat):Int)==47)=false∧(((rs[m]:Nat):Int)==46)=true)∨
     ((((rs[0]:Nat):Int)==45)=false∧(((rs[0]:Nat):Int)==46)=false∧(((rs[0]:Nat):Int)==47)=false∧(((rs[m]:Nat):Int)==46)=false∧(((rs[m]:Nat):Int)==47)=true))∨
     Hid (headBad rs[0]=false∧lastBad rs[m]=false)∧(((rs[0]:Nat):Int)==45)=false∧(((rs[0]:Nat):Int)==46)=false∧(((rs[0]:Nat):Int)==47)=false∧(((rs[m]:Nat):Int)==46)=false∧(((rs[m]:Nat):Int)==47)=false:=by
    simp only[Hid,headBad,lastBad,Bool.or_eq_true,Bool.or_eq_false_iff,beq_iff_eq,beq_eq_false_iff_ne,ne_eq];omega
   clear hNR hhd hlast hlen
   have g0:=Is_get rs 0 h0l
   have gm:=Is_get rs m hml
   rcases hh with ⟨HB,hh⟩ | ⟨HB,t3,t4,t5,t6,t7⟩
   ·have HF:Hid (nameR rs=false):=by
     show nameR rs=false
     rw[hR.out]
     rcases HB.out with h | h <;> rw[h] <;> simp
    clear hR HB
    generalize rs[0]=a at *
    generalize rs[m]=b at *
    rcases hh with t3 | ⟨t3,t4⟩ | ⟨t3,t4,t5⟩ | ⟨t3,t4,t5,t6⟩ | ⟨t3,t4,t5,t6,t7⟩
    all_goals
     go_enter Tryz.func213,Tryz.ntmps213
     go_wp2_with fail
     refine hsg.mono ?_
     rintro e w1 ⟨v,rfl,hf⟩
     rw[HN.out] at hf
     have c1:=hf.chg
     obtain⟨g,off,cap,rfl,hcap,hcell⟩:=hf.own.sees.at1 (by omega)
     have x0:=hcell 0 (by omega)
     have xm:=hcell m (by omega)
     rw[g0] at x0
     rw[gm] at xm
     simp only[Nat.add_zero] at x0
     clear hsg hf hcell g0 gm
     go_wp2_with fail
     go_ret
     exact⟨by rw[HF.out];rfl,c1⟩
   ·clear hR
    have HR:Hid (nameR rs=(rs.all letter&&!dbl rs)):=by
     show _=_
     unfold nameR
     obtain⟨b1,b2⟩:=HB.out
     have hhd:rs.headD 0=rs[0]:=by cases rs;(simp at h0l);rfl
     have hlast:rs.getLastD 0=rs[m]:=by
      rw[List.getLastD_eq_getLast?,List.getLast?_eq_getElem?,HN.out,Nat.add_sub_cancel,List.getElem?_eq_getElem hml];rfl
     rw[HN.out,hhd,hlast,b1,b2,show decide (1≤m+1)=true by simp,show decide (m+1≤40)=true by simp;omega]
     simp
    clear HB
    generalize rs[0]=a at *
    generalize rs[m]=b at *
    go_enter Tryz.func213,Tryz.ntmps213
    go_wp2_with fail
    refine hsg.mono ?_
    rintro e w1 ⟨v,rfl,hf⟩
    rw[HN.out] at hf
    have c1:=hf.chg
    obtain⟨g,off,cap,rfl,hcap,hcell⟩:=hf.own.sees.at1 (by omega)
    have x0:=hcell 0 (by omega)
    have xm:=hcell m (by omega)
    rw[g0] at x0
    rw[gm] at xm
    simp only[Nat.add_zero] at x0
    have HC:Hid (∀j (h:j<rs.length),w1.cell? ⟨g,off+j,none⟩=some (.int .i64 ((rs[j]'h:Nat):Int))):=fun j h=>by
     rw[hcell j (by rw[HN.out] at h;exact h)];exact Is_get rs j h
    clear hsg hf hcell g0 gm
    go_wp2_with fail
    clear x0 xm t1 t1' t2 t2' t3 t4 t5 t6 t7
    go_loopg [5] (m+1) (fun k vi wr=>∃(i:Nat),vi=.int .i64 i∧i+k=m+1∧wr=w1∧Hid ((∀j (h:j<rs.length),j<i→letter rs[j]=true)∧(∀j,j+1<i→¬(rs.getD j 0=47∧rs.getD (j+1) 0=47))))
    case atStart=>exact⟨0,rfl,by omega,rfl,fun j _ h=>absurd h (by omega),fun j h=>absurd h (by omega)⟩
    case round=>
     obtain⟨i,rfl,hik,rfl,HA⟩:=hrel
     by_cases hi:i<m+1
     ·have r1:decide ((i:Int)<((m+1:Nat):Int))=true:=by simp;omega
      have r1b:decide ((i:Int)<(m:Int)+1)=true:=by simp;omega
      have r1':decide (i<m+1)=true:=by simp;omega
      have hil:i<rs.length:=by rw[HN.out];exact hi
      have x0:=HC.out i hil
      have hc2:=HOK.out _ (List.getElem_mem hil)
      have hgd:rs.getD i 0=rs[i]:=by simp[List.getD,hil]
      have ib:(i:Int)≤40:=by omega
      have hlet:=rletter_any rs[i] hc2 wr
      cases hL:letter rs[i] with
      | false=>
       rw[hL] at hlet
       have HF:Hid (nameR rs=false):=by
        show nameR rs=false
        rw[HR.out]
        rw[List.all_eq_false.2 ⟨rs[i],List.getElem_mem hil,by rw[hL];decide⟩];rfl
       have HI:=zH hi
       clear hL hgd hik
       generalize rs[i]=c at *
       go_wp2_with fail
       refine hlet.mono ?_
       rintro e w3 ⟨rfl,rfl⟩
       go_wp2_with fail
       go_ret
       exact⟨by rw[HF.out];rfl,c1⟩
      | true=>
       rw[hL] at hlet
       have HLet:=zH hL
       by_cases h0:i=0
       ·subst h0
        have x0b:wr.cell? ⟨g,off,none⟩=some (.int .i64 ((rs[0]:Nat):Int)):=x0
        have HN2:Hid ((∀j (h:j<rs.length),j<0+1→letter rs[j]=true)∧(∀j,j+1<0+1→¬(rs.getD j 0=47∧rs.getD (j+1) 0=47))):=⟨fun j h hj=>by
         obtain rfl:j=0:=by omega
         exact HLet.out,fun j hj=>absurd hj (by omega)⟩
        have HP:=zH hik
        clear hL hgd hik HA HLet
        generalize rs[0]=c at *
        go_wp2_with fail
        refine hlet.mono ?_
        rintro e w3 ⟨rfl,rfl⟩
        go_wp2_with fail
        go_roundg (gk - 1)
        case measure=>have:=HP.out;omega
        case rel=>exact⟨0+1,by go_num,by have:=HP.out;omega,rfl,HN2⟩
       ·obtain⟨p,rfl⟩:∃p,i=p+1:=⟨i - 1,by omega⟩
        have hpl:p<rs.length:=by omega
        have x1:=HC.out p hpl
        have hgp:rs.getD p 0=rs[p]:=by simp[List.getD,hpl]
        have t8:decide (0<((p+1:Nat):Int))=true:=decide_eq_true (by omega)
        have t8b:decide (0<(p:Int)+1)=true:=decide_eq_true (by omega)
        have t8':decide (0<p+1)=true:=by simp
        have e1:((p+1:Nat):Int) - 1=(p:Int):=by omega
        have hh:Hid (rs[p+1]=47∧rs[p]=47)∧(((rs[p+1]:Nat):Int)==47)=true∧(((rs[p]:Nat):Int)==47)=true∨
          Hid (¬(rs[p]=47∧rs[p+1]=47))∧(((rs[p+1]:Nat):Int)==47)=true∧(((rs[p]:Nat):Int)==47)=false∨
          Hid (¬(rs[p]=47∧rs[p+1]=47))∧(((rs[p+1]:Nat):Int)==47)=false:=by
         simp only[Hid,beq_iff_eq,beq_eq_false_iff_ne,ne_eq];omega
        have HP:=zC hik hi hgd hgp
        rcases hh with ⟨HH,z1,z2⟩ | ⟨HH,z1,z2⟩ | ⟨HH,z1⟩
        ·have HF:Hid (nameR rs=false):=by
          show nameR rs=false
          rw[HR.out]
          rw[show dbl rs=true from (dbl_iff rs).2 ⟨p,hil,by rw[hgp];exact HH.out.2,by rw[hgd];exact HH.out.1⟩]
          simp
         have hp40:(p:Int)+1≤40:=by omega
         clear hL hgd hik hgp HH HP HLet
         generalize rs[p+1]=c at *
         generalize rs[p]=d at *
         go_wp2_with fail
         refine hlet.mono ?_
         rintro e w3 ⟨rfl,rfl⟩
         go_wp2_with fail
         go_ret
         exact⟨by rw[HF.out];rfl,c1⟩
        all_goals
         have HN2:Hid ((∀j (h:j<rs.length),j<p+1+1→letter rs[j]=true)∧(∀j,j+1<p+1+1→¬(rs.getD j 0=47∧rs.getD (j+1) 0=47))):=⟨fun j h hj=>by
          by_cases hj2:j<p+1
          ·exact HA.out.1 j h hj2
          ·obtain rfl:j=p+1:=by omega
           exact HLet.out,fun j hj=>by
          by_cases hj2:j+1<p+1
          ·exact HA.out.2 j hj2
          ·obtain rfl:j=p:=by omega
           rw[hgp,hgd];exact HH.out⟩
         have hp40:(p:Int)+1≤40:=by omega
         clear hL hgd hik hgp HH HA HLet
         generalize rs[p+1]=c at *
         generalize rs[p]=d at *
         go_wp2_with fail
         refine hlet.mono ?_
         rintro e w3 ⟨rfl,rfl⟩
         go_wp2_with fail
         go_roundg (gk - 1)
         case measure=>have:=HP.out;omega
         case rel=>exact⟨p+1+1,by go_num,by have:=HP.out;omega,rfl,HN2⟩
     ·have r1:decide ((i:Int)<((m+1:Nat):Int))=false:=by simp;omega
      have r1b:decide ((i:Int)<(m:Int)+1)=false:=by simp;omega
      have r1':decide (i<m+1)=false:=by simp;omega
      have HF:Hid (nameR rs=true):=by
       show nameR rs=true
       rw[HR.out]
       obtain⟨b1,b2⟩:=HA.out
       have e1:rs.all letter=true:=by
        rw[List.all_eq_true]
        intro x hx
        obtain⟨j,hj,rfl⟩:=List.getElem_of_mem hx
        exact b1 j hj (by have:=HN.out;omega)
       have e2:dbl rs=false:=by
        rw[Bool.eq_false_iff]
        intro h
        obtain⟨j,h1,h2,h3⟩:=(dbl_iff rs).1 h
        exact b2 j (by have:=HN.out;omega) ⟨h2,h3⟩
       rw[e1,e2];rfl
      clear hi hik
      go_wp2_with fail
      go_ret
      exact⟨by rw[HF.out];rfl,c1⟩
end
section
open Go.RowKit Go.Aq Go.Aq.Fy
theorem two_ways (b:Bool) {P Q:Prop} (h:b=false→P) (k:b=true→Q):(b=false∧P)∨(b=true∧Q):=by cases b with | false=>exact .inl ⟨rfl,h rfl⟩ | true=>exact .inr ⟨rfl,k rfl⟩
set_option maxRecDepth 100000 in
theorem rcmay_ok (w:World) (c:CommD) (v:Value) (n:Nat) (hn:c.pars.length=n) (hv:Sees w 1 v n (names c.pars)) (hb:n≤100000) (hs:∀k∈c.pars,k.length≤1000000) (hl1:c.tree.length≤1000000) (hl2:c.author.length≤1000000) (hl3:c.text.length≤1000000):
  Calls Tryz.prog 154 #[commV c v] w fun e w'=>e=.returned (.bool (mayComm c))∧Chg [] w w':=by
 obtain⟨tr,l,st,au,tx⟩:=c
 simp only at hn hv hs hl1 hl2 hl3
 obtain⟨ao,cap,rfl,-⟩:=hv.shape
 obtain⟨K,hK⟩:∃K,w.heap.size=K:=⟨_,rfl⟩
 obtain⟨wb,hwb⟩:∃wb,w.alloc (.cells #[.string (str tr),.slice ao n cap,.int .i64 st,.string (str au),.string (str tx)] 155)=wb:=⟨_,rfl⟩
 have hc0:Chg [] w wb:=by rw[←hwb];exact (Chg.refl [] w).alloc _
 have hb0:Blk wb K #[.string (str tr),.slice ao n cap,.int .i64 st,.string (str au),.string (str tx)] 155:=by rw[←hwb];exact Blk.new_at w _ _ hK
 have hvt:=fun w'=>refValid_any w' tr hl1
 have hva:=fun w' (c:Chg [] w w')=>rvalids_ok w' l (.slice ao n cap) n hn (hv.chg0 c) (by omega) hs
 have hna:=fun w'=>rname_any au w' (by omega)
 have htx:=fun w'=>rtext_any tx w' (by omega)
 obtain⟨B,hB⟩:∃B,mayComm ⟨tr,l,st,au,tx⟩=B:=⟨_,rfl⟩
 rw[hB]
 have eM:mayComm ⟨tr,l,st,au,tx⟩=(validB tr&&decide (n≤2)&&validAll l&&!twins l&&decide (1≤st)&&decide (st≤1099511627776)&&Wd.nameL au&&Wd.textL tx):=by
  unfold mayComm
  simp only[hn]
 rw[eM] at hB
 unfold commV
 have d2:decide ((n:Int)≤2)=decide (n≤2):=decide_eq_decide.2 (by omega)
 have ht:=two_ways (decide (1≤st)) (P:=True) (fun _=>trivial) fun _=>two_ways (decide (st≤1099511627776)) (P:=True) (fun _=>trivial) fun _=>two_ways (Wd.nameL au) (P:=True) (fun _=>trivial) fun _=>two_ways (Wd.textL tx) (P:=True) (Q:=True) (fun _=>trivial) fun _=>trivial
 clear hl1 hl2 hl3 hs hb eM
 rcases two_ways (validB tr) (P:=True) (fun _=>trivial) fun _=>two_ways (decide (n≤2)) (P:=True) (fun _=>trivial) fun _=>two_ways (validAll l) (P:=True) (Q:=True) (fun _=>trivial) fun _=>trivial with ⟨q1,-⟩ | ⟨q1,⟨q2,-⟩ | ⟨q2,⟨q3,-⟩ | ⟨q3,-⟩⟩⟩
 case' inr.inr.inr=>
  by_cases h2:n=2
  case' pos=>
   obtain⟨a,b,rfl⟩:∃a b,l=[a,b]:=by
    match l,hn with
    | [],hn=>simp at hn;omega
    | [a],hn=>simp at hn;omega
    | [a,b],_=>exact⟨a,b,rfl⟩
    | a::b::c::t,hn=>simp at hn;omega
   subst h2
   obtain⟨g,off,cap',e1,hle',-,hxc⟩:=hv.cells (by decide)
   injection e1 with e1 e0 e2
   subst e1 e2
   have u0:w.cell? ⟨g,off+0,none⟩=some (.string (str a)):=hxc 0 (by decide)
   have u1:w.cell? ⟨g,off+1,none⟩=some (.string (str b)):=hxc 1 (by decide)
   rw[Nat.add_zero] at u0
   have d3:decide ((2:Int)<2)=false:=rfl
   have q4:=str_eq a b
   have q4':((str a).toList != (str b).toList)=!decide (a=b):=by simp only[bne,q4]
   by_cases hab:a=b
   case' pos=>
    have Q4:twins [a,b]=true:=by unfold twins;simp[hab]
    rw[decide_eq_true hab] at q4 q4'
   case' neg=>
    have Q4:twins [a,b]=false:=by unfold twins;simp[hab]
    rw[decide_eq_false hab] at q4 q4'
    rcases ht with ⟨q5,-⟩ | ⟨q5,⟨q6,-⟩ | ⟨q6,⟨q7,-⟩ | ⟨q7,⟨q8,-⟩ | ⟨q8,-⟩⟩⟩⟩
   all_goals clear hxc hle' e0 hab
  case' neg=>
   have hlt:n<2:=by have:=of_decide_eq_true q2;omega
   have d3:decide ((n:Int)<2)=true:=by simp;omega
   have d3':decide (n<2)=true:=by simp;omega
   have Q4:twins l=false:=by
    unfold twins
    split
    ·rename_i a b;simp at hn;omega
    ·rfl
   rcases ht with ⟨q5,-⟩ | ⟨q5,⟨q6,-⟩ | ⟨q6,⟨q7,-⟩ | ⟨q7,⟨q8,-⟩ | ⟨q8,-⟩⟩⟩⟩
   all_goals clear h2 hlt
 all_goals
  simp only[*,Bool.not_true,Bool.not_false,Bool.true_and,Bool.false_and,Bool.and_false,Bool.and_true] at hB
  subst hB
  try rw[q1] at hvt
  try rw[q2] at d2
  try rw[q3] at hva
  try rw[q7] at hna
  try rw[q8] at htx
  try clear ht
  have HC0:=zH hc0
  have HWB:=zH hwb
  clear hc0 hn hv hwb
  try clear q1
  try clear q3
  try clear Q4
  try clear q7
  try clear q8
  go_enter Tryz.func154,Tryz.ntmps154
  go_upto_region 1 with (fail)
  rw[HWB.out]
  have hc0:=HC0.out
  obtain⟨x0,x1,x2,x3,x4⟩:=Blk5 hb0
  obtain⟨X,hne,F,x,hF0,hF,hX⟩:=fam0 wb
  have z0:=fun x=>(hF x).cell_some x0 (by simp)
  have z1:=fun x=>(hF x).cell_some x1 (by simp)
  have z2:=fun x=>(hF x).cell_some x2 (by simp)
  have z3:=fun x=>(hF x).cell_some x3 (by simp)
  have z4:=fun x=>(hF x).cell_some x4 (by simp)
  try have z5:=fun x=>(hF x).cell_some (hc0.cell_some u0 (by simp)) (by simp)
  try have z6:=fun x=>(hF x).cell_some (hc0.cell_some u1 (by simp)) (by simp)
  have hvx:=fun x=>hva (F x) (hc0.nil (hF x))
  clear hb0 x0 x1 x2 x3 x4 hva hc0
  try clear u0 u1
  refine wp_fam F (by kernel_rfl) (by kernel_rfl) x hF0 ?_
  repeat (go_big_quiet_step (first | exact fam_call hF hX (hvt _) | exact fam_call hF hX (hvx _) | exact fam_call hF hX (hna _) | exact fam_call hF hX (htx _)))
  refine wpQuiet_nil ?_
  rintro w' ⟨x1,rfl⟩
  go_wp2_with fail
  go_ret
  exact⟨rfl,HC0.out.nil (hF x1)⟩
theorem rreadBig_ok (w:World) (v:Value) (n at_ wd:Nat) (b:List UInt8) (hv:Sees w 1 v n (Bs b)) (h1:1≤wd) (h6:wd≤6) (ha:at_+wd≤n) (hn:n≤1000000000):
  Calls Tryz.prog 183 #[v,.int .i64 at_,.int .i64 wd] w fun e w'=>e=.returned (.tuple #[.int .i64 (beVal ((b.drop at_).take wd):Nat),.int .i64 0])∧w=w':=by
 obtain⟨R,hR⟩:∃R,beVal ((b.drop at_).take wd)=R:=⟨_,rfl⟩
 rw[hR]
 have HR:=zH hR;clear hR
 obtain⟨l,hl⟩:∃l,(b.drop at_).take wd=l:=⟨_,rfl⟩
 have hbl:b.length=n:=by have:=hv.len;rw[Bs_length] at this;omega
 have hll:l.length=wd:=by rw[←hl];simp;omega
 obtain⟨g,off,cap,rfl,hc,hcell⟩:=hv.at1 (by omega)
 have hce:∀i,i<wd→w.cell? ⟨g,off+(at_+i),none⟩=some (.int .u8 ((l.getD i 0).toNat:Int)):=fun i hi=>by
  rw[hcell (at_+i) (by omega),Bs_get b (at_+i) (by omega)]
  subst hl
  simp[List.getD,List.getElem?_take,hi,List.getElem?_drop,show at_+i<b.length by omega]
 have HC:=zH hce
 have HL:=zA hll hl
 obtain⟨q,hq⟩:∃q,q+at_=n:=⟨n - at_,by omega⟩
 have HB:Hid (at_+wd≤n∧n≤1000000000∧1≤wd∧wd≤6):=⟨ha,hn,h1,h6⟩
 have d1:decide ((wd:Int)<1)=false:=by simp;omega
 have d2:decide (6<(wd:Int))=false:=by simp;omega
 have d2':decide (6<wd)=false:=by simp;omega
 have d3:decide ((at_:Int)<0)=false:=by simp
 have d4:decide ((n:Int)<(at_:Int))=false:=by simp;omega
 have d4':decide (n<at_)=false:=by simp;omega
 have d5:decide ((q:Int)<(wd:Int))=false:=by simp;omega
 have d5':decide (q<wd)=false:=by simp;omega
 have hw:wrap64 ((n:Int) - (at_:Int))=(q:Int):=by rw[show (n:Int) - (at_:Int)=(q:Int) by omega];exact w64 _ (by omega)
 clear hv hce hcell hc hbl hll hl h1 h6 ha hn hq
 go_enter Tryz.func183,Tryz.ntmps183
 go_wp2_with fail
 clear d1 d2 d2' d3 d4 d4' d5 d5' hw
 go_loopg [8,9] wd (fun k vn vi wr=>∃(i m:Nat),vn=.int .i64 m∧vi=.int .i64 i∧i+k=wd∧m=beVal (l.take i)∧wr=w)
 case atStart=>exact⟨0,0,rfl,rfl,by omega,rfl,rfl⟩
 case round=>
  obtain⟨i,m,rfl,rfl,hik,hm,rfl⟩:=hrel
  have hmb:m<1099511627776∨i=wd:=by
   by_cases hi:i<wd
   ·left
    have h:=beVal_lt (l.take i)
    rw[List.length_take,Nat.min_eq_left (by have:=HL.out.1;omega),←hm] at h
    have h2:(256:Nat)^i≤256^5:=Nat.pow_le_pow_right (by decide) (by have:=HB.out;omega)
    have h3:(256:Nat)^5=1099511627776:=by decide
    omega
   ·right;omega
  have HM:=zH hm;clear hm
  have HIK:=zH hik;clear hik
  by_cases hlt:i<wd
  ·have hmb':m<1099511627776:=by omega
   clear hmb
   have hll:i<l.length:=by have:=HL.out.1;omega
   have x0:=HC.out i hlt
   have hg:l.getD i 0=l[i]'hll:=by simp[List.getD,hll]
   rw[hg] at x0
   have hb:=(l[i]'hll).toNat_lt
   have HT:=zH (show beVal (l.take (i+1))=beVal (l.take i) * 256+(l[i]'hll).toNat by rw[List.take_succ_eq_append_getElem hll,beVal_snoc])
   have hor:=or_byte m (l[i]'hll).toNat hmb' hb
   generalize (l[i]'hll).toNat=x at *
   have t1:decide ((i:Int)<(wd:Int))=true:=decide_eq_true (by omega)
   have t1':decide (i<wd)=true:=decide_eq_true hlt
   obtain⟨p,hp⟩:∃p,at_+i=p:=⟨_,rfl⟩
   have q1:p<n:=by have:=HB.out;omega
   have q2:(p:Int)<(n:Int):=by omega
   have hpw:wrap64 ((at_:Int)+(i:Int))=(p:Int):=by rw[show (at_:Int)+(i:Int)=(p:Int) by omega];exact w64 _ (by have:=HB.out;omega)
   rw[hp] at x0
   have hwi:Hid (wrap64 ((i:Int)+1)=((i+1:Nat):Int)):=by show _=_;rw[show (i:Int)+1=((i+1:Nat):Int) by omega];exact w64 _ (by have:=HB.out;omega)
   clear hg hll hlt hp
   go_wp2
   go_roundg (gk - 1)
   case measure=>have:=HIK.out;have:=of_decide_eq_true t1';omega
   case rel=>
    have hi1:=of_decide_eq_true t1'
    exact⟨i+1,m * 256+x,by go_num,by rw[hwi.out],by have:=HIK.out;omega,by rw[HT.out,←HM.out],rfl⟩
  ·have hi:i=wd:=by have:=HIK.out;omega
   subst hi
   have t1:decide ((i:Int)<(i:Int))=false:=decide_eq_false (by omega)
   have t1':decide (i<i)=false:=decide_eq_false (by omega)
   clear hmb hlt
   go_wp2
   go_ret2
   have hm:m=R:=by
    have h:=HM.out
    rw[List.take_of_length_le (by have:=HL.out.1;omega)] at h
    rw[h,←HR.out,HL.out.2]
   rw[hm]
   exact⟨rfl,rfl⟩
theorem rnum_ok (w:World) (v:Value) (n at_ wd:Nat) (b:List UInt8) (hv:Sees w 1 v n (Bs b)) (h1:1≤wd) (h6:wd≤6) (ha:at_+wd≤n) (hn:n≤1000000000):
  Calls Tryz.prog 153 #[v,.int .i64 at_,.int .i64 wd] w fun e w'=>e=.returned (.int .i64 (beVal ((b.drop at_).take wd):Nat))∧w'=w:=by
 have hr:=rreadBig_ok w v n at_ wd b hv h1 h6 ha hn
 obtain⟨ao,cap,rfl,-⟩:=hv.shape
 clear hv h1 h6 ha hn
 generalize beVal ((b.drop at_).take wd)=R at *
 go_enter Tryz.func153,Tryz.ntmps153
 go_wp2_with fail
 refine hr.mono ?_
 rintro e w1 ⟨rfl,rfl⟩
 clear hr
 go_wp2_with fail
 go_ret
 exact⟨rfl,rfl⟩
end
end Go.Proofs.YtlidiclfpklliaaGreatDoor
