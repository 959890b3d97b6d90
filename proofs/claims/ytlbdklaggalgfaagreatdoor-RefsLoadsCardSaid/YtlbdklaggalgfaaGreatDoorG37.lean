/- WordK RHex NumHex NumUnhex -/
import Derived.Test.YtlbdklaggalgfaaGreatDoorG36
import Derived.Deep.RegionLaw
set_option linter.unusedVariables false
set_option maxHeartbeats 4000000
namespace Go.Aq.Wd
def Ss (l:List (List UInt8)):List Value:=l.map fun (s:List UInt8)=>Value.string (str s)
theorem Ss_append (a b:List (List UInt8)):Ss (a++b)=Ss a++Ss b:=by simp[Ss]
theorem Ss_len (a:List (List UInt8)):(Ss a).length=a.length:=by simp[Ss]
theorem blanks_step (r:List UInt8):blanks r=if r.headD 0=32∧r≠[] then blanks (r.drop 1)+1 else 0:=by
 cases r with
 | nil=>rfl
 | cons x t=>
  by_cases h:x=32;·subst h;simp[blanks]
  ·rw[if_neg (by simp[h])];unfold blanks;split;·rename_i heq;simp only[List.cons.injEq] at heq;exact absurd heq.1 h
   ·rfl
theorem plain_pos (r:List UInt8) (h:r≠[]) (h32:r.headD 0≠32) (hok:(plainW r).2=true):1≤(plainW r).1:=by
 have hp:=dec_pos r;rw[plainW_step r h] at hok ⊢;split at hok;·simp at hok
 ·split at hok;·rename_i hc;exact absurd ((head32 r h).1 hc) h32
  ·split at hok;·simp at hok
   ·rename_i h1 h2 h3;rw[if_neg h1,if_neg h2,if_neg h3];simp only;omega
theorem plain_le:∀(n:Nat) (r:List UInt8),r.length≤n→(plainW r).1≤r.length
 | 0,r,hn=>by
  have:r=[]:=List.eq_nil_of_length_eq_zero (by omega);subst this;rw[plainW_nil];simp
 | n+1,r,hn=>by
  by_cases hr:r=[];·subst hr;rw[plainW_nil];simp
  ·have hp:=dec_pos r;have hle:=dec_le r hr;have ih:=plain_le n (r.drop (dec r).2) (by rw[List.length_drop];omega);rw[List.length_drop] at ih;rw[plainW_step r hr];split;·simp
   ·split;·simp
    ·split;·simp
     ·simp only;omega
theorem word_le (r:List UInt8) (h:r≠[]):(wordW r).2.1≤r.length:=by
 have hl:1≤r.length:=List.length_pos_iff.2 h;have hq:=(quot_err _ (r.drop 1) (Nat.le_refl _)).1;rw[List.length_drop] at hq;unfold wordW;split
 ·split;·simp only;omega
  ·split <;> (simp only;omega)
 ·exact plain_le _ r (Nat.le_refl _)
theorem word_pos (r:List UInt8) (h:r≠[]) (h32:r.headD 0≠32) (hok:(wordW r).2.2=0):1≤(wordW r).2.1:=by
 unfold wordW at hok ⊢;split
 ·split;·simp only;omega
  ·split <;> (simp only;omega)
 ·rename_i h34;rw[if_neg h34] at hok;simp only at hok ⊢;refine plain_pos r h h32 ?_;cases hp:(plainW r).2 with
  | true=>rfl
  | false=>rw[hp] at hok;simp at hok
end Go.Aq.Wd
namespace Go.Proofs.YtlbdklaggalgfaaGreatDoor
open Go.RowKit Go.Aq Go.Aq.Wd
theorem Fresh_toR {w wo wr:World} {e:TypeId} {size:Nat} {v:Value} {n R:Nat} {xs:List Value} (h:Fresh w wo e size v n xs) (c:Chg [R] wo wr) (hR:R∉v.ownBlock.toList) (hw:w.heap.size≤R):Fresh w wr e size v n xs:=
 ⟨h.own.chg c (fun k hk=>by simp;rintro rfl;exact hR hk),h.chg.trans c (by simpa using hw),h.new⟩
theorem sl_str:SliceTy Tryz.prog 152 9 (.string ⟨#[]⟩) 1 16:=⟨Tryz.underlying152,by kernel_rfl,rfl,by decide⟩
theorem words_any (l:List UInt8) (w:World) (hT:Tabs w) (hl:l.length≤1000000000):
  Calls Tryz.prog 134 #[.string (str l)] w fun e w'=>∃v,e=.returned (.tuple #[v,.int .i64 (wordsL l).2.1,.int .i64 (wordsL l).2.2])∧Fresh w w' 9 1 v (wordsL l).1.length (Ss (wordsL l).1):=by
 have hsz:=str_size l;obtain⟨R,hRs⟩:∃R,w.heap.size=R:=⟨_,rfl⟩;have hoff:Off R:=hT.off (by omega);have hR0:Rd (w.alloc (.cells #[.string (str l),.int .i64 0,.int .i64 0] 242)) R l 0 0:=by
  unfold Rd;rw[←hRs];exact Blk.new w _ _
 have hf0:Fresh w (w.alloc (.cells #[.string (str l),.int .i64 0,.int .i64 0] 242)) 9 1 (.slice none 0 0) 0 (Ss []):=(Fresh.nil w _ _).to ((Chg.refl [] w).alloc _);have hW:wordsL l=wordsF l.length (l.length+1) (l.drop 0) []:=rfl;have HW:=zH hW;clear hW;go_enter Tryz.func134,Tryz.ntmps134;go_wp2_with fail;generalize w.alloc (.cells #[.string (str l),.int .i64 0,.int .i64 0] 242)=w0 at *;go_loopg [6] (l.length+1) (fun k vl wr=>∃(q f:Nat) (acc:List (List UInt8)),q+k=l.length+1∧q≤l.length∧l.length<q+f∧acc.length≤50∧Rd wr R l q 0∧Fresh w wr 9 1 vl acc.length (Ss acc)∧wordsL l=wordsF l.length f (l.drop q) acc);case atStart=>exact⟨0,l.length+1,[],by omega,by omega,by omega,by simp,hR0,hf0,HW.out⟩
 case round=>
  clear hR0 hf0;obtain⟨q,f,acc,hqk,hql,hqf,ha50,hR,hf,hw⟩:=hrel;obtain⟨GK,hGK⟩:∃G,G=gk:=⟨_,rfl⟩;obtain⟨wo,hwo⟩:∃wo:World,wo=wr:=⟨_,rfl⟩;rw[←hwo] at hR hf;rw[←hGK] at hqk;subst hwo;have hRv:R∉u6.ownBlock.toList:=hf.own.ne hR (by decide);go_wp2_with fail;go_loopg [] (l.length - q) (fun k wr=>∃(q1:Nat),q1+k=l.length∧q≤q1∧q1≤l.length∧Rd wr R l q1 0∧Chg [R] wo wr∧q1+blanks (l.drop q1)=q+blanks (l.drop q));case atStart=>exact⟨q,by omega,by omega,hql,hR,Chg.refl _ _,rfl⟩
  case round=>
   clear hR;obtain⟨q1,hk1,hqq,hq1l,hR,hc,hbl⟩:=hrel;have c1:wr.cell? ⟨R,1,none⟩=some (.int .i64 (q1:Nat)):=Blk.cell hR 1;have f1:=Blk.frozen hR 1;have hq1b:(q1:Int)≤1000000000:=by omega
   have hbs:=blanks_step (l.drop q1);by_cases h1:q1<l.length∧(l.drop q1).headD 0=32
   ·obtain⟨hlt,h32⟩:=h1;have t1:decide ((q1:Int)<(l.length:Int))=true:=by simp;omega
    have t1':decide (q1<l.length)=true:=by simp;omega
    have hhd:(l.drop q1).headD 0=l[q1]:=by rw[List.drop_eq_getElem_cons hlt];rfl
    rw[hhd] at h32;have ix:=fun w'=>idxS w' l q1 hlt
    rw[h32] at ix;have hx32:((32:UInt8).toNat:Int)=32:=rfl;rw[hx32] at ix;rw[if_pos ⟨by rw[hhd];exact h32,drop_ne l q1 hlt⟩,List.drop_drop] at hbs;have hR3:=Blk.set hR 1 (.int .i64 ((q1+1:Nat):Int));have hcs:=hc.setCell (p:=⟨R,1,none⟩) (by simp) (.int .i64 ((q1+1:Nat):Int));have e2:((q1+1:Nat):Int)=(q1:Int)+1:=by omega
    rw[e2] at hR3 hcs;have HB:=zB hbl hbs hk1;clear hbl hbs hk1 hhd h32 hx32;go_wp2_with fail;go_roundg (gk - 1);case measure=>have:=HB.out;omega
    case rel=>
     refine⟨q1+1,by have:=HB.out;omega,by omega,by omega,?_,hcs,by have:=HB.out;omega⟩;unfold Rd;rw[e2];exact hR3
   ·have hb0:blanks (l.drop q1)=0:=by rw[hbs,if_neg (fun hh=>h1 ⟨by
     by_cases hlt:q1<l.length;·exact hlt
     ·exact absurd (List.drop_eq_nil_of_le (by omega)) hh.2,hh.1⟩)]
    obtain⟨f',rfl⟩:∃f',f=f'+1:=⟨f - 1,by omega⟩;have hdd:(l.drop q).drop (blanks (l.drop q))=l.drop q1:=by rw[List.drop_drop];congr 1;omega
    rw[wordsF] at hw;simp only[hdd] at hw;rw[List.length_drop] at hw;have hf1:=Fresh_toR hf hc hRv (by omega);by_cases hend:l.drop q1=[]
    ·rw[if_pos hend] at hw;have hq1e:q1=l.length:=by have:=congrArg List.length hend;simp at this;omega
     subst hq1e;have t1:decide ((l.length:Int)<(l.length:Int))=false:=by simp
     have t2:((l.length:Int)==(l.length:Int))=true:=by simp
     have HWW:=zH hw;clear hw hend hbs hb0 hbl hdd h1 hR;go_wp2_with fail
     go_ret3
     exact⟨_,by rw[HWW.out];rfl,by rw[HWW.out];exact hf1⟩
    ·rw[if_neg hend] at hw;have hlt:q1<l.length:=by
      by_cases hlt:q1<l.length;·exact hlt
      ·exact absurd (List.drop_eq_nil_of_le (by omega)) hend
     have hhd:(l.drop q1).headD 0=l[q1]:=by rw[List.drop_eq_getElem_cons hlt];rfl
     have hn32:(l.drop q1).headD 0≠32:=fun e=>h1 ⟨hlt,e⟩
     have hx32:(l[q1]).toNat≠32:=fun e=>hn32 (by rw[hhd,←u8e _ _ e];rfl)
     have ix:=fun w'=>idxS w' l q1 hlt
     have t1:decide ((q1:Int)<(l.length:Int))=true:=by simp;omega
     have t1':decide (q1<l.length)=true:=by simp;omega
     have t2:((q1:Int)==(l.length:Int))=false:=by simp;omega
     have t3:(((l[q1]).toNat:Int)==32)=false:=by simp;omega
     generalize (l[q1]).toNat=x at *;obtain⟨ao,cap,hu6,hcap⟩:=hf1.shape;subst hu6;clear h1 hhd hbs hb0 hbl hdd hx32;by_cases h50:acc.length=50
     ·rw[if_pos h50] at hw;have HWW:=zH hw;have t5:((acc.length:Int)==50)=true:=by simp;omega
      have hq1e:l.length - (l.length - q1)=q1:=by omega
      rw[hq1e] at HWW;clear hw hq1e;go_wp2_with fail;go_quiet (fail);have hcq:=hf1.chg.drewN nq;generalize wr.drewN nq=w3 at *;go_wp2_with fail
      go_ret3
      exact⟨_,by rw[HWW.out];rfl,by rw[HWW.out];exact (Fresh.nil w _ _).to hcq⟩
     ·rw[if_neg h50] at hw;have t5:((acc.length:Int)==50)=false:=by simp;omega
      have h49:acc.length≤49:=by omega
      have hTr:Tabs wr:=hT.chg hf1.chg;have hwa:=word_any wr hTr R hoff l q1 hR hlt hl;have hpos:=word_pos (l.drop q1) hend hn32;have hwle:=word_le (l.drop q1) hend;rw[List.length_drop] at hwle;have hRv1:R∉(Value.slice ao acc.length cap).ownBlock.toList:=hf1.own.ne hR (by decide);generalize wordW (l.drop q1)=W3 at *;obtain⟨wt,wm,we⟩:=W3;simp only at hw hwa hpos hwle;by_cases he:we=0
      ·subst he;rw[if_neg (by simp)] at hw;have hm1:=hpos rfl;rw[List.drop_drop] at hw;have HWW:=zH hw;have HQ:=zC hqk hk1 hqf hGK;clear hw hpos hk1 hqf hGK hR h50;go_wp2_with fail;refine hwa.mono ?_;rintro e w3 ⟨t,rfl,ht,hR3,c3⟩;obtain rfl:=ht trivial;have hf3:=Fresh_toR hf1 c3 hRv1 (by omega);have d2:w3.cell? ⟨R,2,none⟩=some (.int .i64 (0:Nat)):=Blk.cell hR3 2;clear hwa;go_wp2_with (at_builtin;refine wpList_appF (w0:=w) rfl _ _ 152 rfl sl_str (by exact hf3.to ((Chg.refl [] w3).alloc (.cells #[.string (str t)] 9))) rfl (Sees.row (cs:=#[.string (str t)]) (by exact Blk.new w3 _ 9) (m:=1) rfl) rfl (by simp[Value.oneCell']) (by omega) (by omega) ?_;intro v4 w4 hF4 c4);go_roundg (GK - (q1+wm - q));case measure=>have:=HQ.out;omega
       case rel=>
        refine⟨q1+wm,f',acc++[t],by have:=HQ.out;omega,by omega,by have:=HQ.out;omega,by simp;omega,?_,?_,HWW.out⟩;·exact (Blk.alloc hR3 _).chg c4 hRv1
        ·rw[Ss_append];simpa[Ss] using hF4
      ·rw[if_pos he] at hw;have hq1e:l.length - (l.length - q1)+wm=q1+wm:=by omega
       rw[hq1e] at hw;have t6:((we:Int) != 0)=true:=by simp;omega
       have t6':((we:Int)==0)=false:=by simp;omega
       have HWW:=zH hw;clear hw hq1e hpos he hR;go_wp2_with fail;refine hwa.mono ?_;rintro e w3 ⟨t,rfl,-,hR3,c3⟩;have hf3:=Fresh_toR hf1 c3 hRv1 (by omega);have d2:w3.cell? ⟨R,2,none⟩=some (.int .i64 (we:Nat)):=Blk.cell hR3 2;have d1:w3.cell? ⟨R,1,none⟩=some (.int .i64 ((q1+wm:Nat):Int)):=Blk.cell hR3 1;clear hwa;go_wp2_with fail;go_quiet (fail);have hcq:=hf3.chg.drewN nq;generalize w3.drewN nq=w4 at *;go_wp2_with fail
       go_ret3
       exact⟨_,by rw[HWW.out];rfl,by rw[HWW.out];exact (Fresh.nil w _ _).to hcq⟩
end Go.Proofs.YtlbdklaggalgfaaGreatDoor
namespace Go.Aq
open Go.RowKit
def digitsS:ByteArray:=⟨#[48,49,50,51,52,53,54,55,56,57,97,98,99,100,101,102]⟩
def hxD (n:Nat):UInt8:=if n<10 then UInt8.ofNat (48+n) else UInt8.ofNat (87+n)
def hexL (b:List UInt8):List UInt8:=b.flatMap fun x=>[hxD (x.toNat / 16),hxD (x.toNat % 16)]
theorem hexL_length (b:List UInt8):(hexL b).length=2 * b.length:=by
 induction b with
 | nil=>rfl
 | cons a t ih=>simp only[hexL,List.flatMap_cons,List.length_append,List.length_cons,List.length_nil] at ih ⊢;omega
theorem hexL_snoc (b:List UInt8) (x:UInt8):hexL (b++[x])=hexL b++[hxD (x.toNat / 16),hxD (x.toNat % 16)]:=by simp[hexL]
end Go.Aq
namespace Go.Proofs.YtlbdklaggalgfaaGreatDoor
open Go.RowKit Go.Aq
set_option maxRecDepth 100000 in
theorem idxDigits (w:World) (n:Nat) (h:n<16):(Instr.index 9 (.string digitsS) (.int .u8 (n:Int))).run Tryz.prog w=.ok (.int .u8 ((hxD n).toNat:Int)) w:=by
 have h':n=0∨n=1∨n=2∨n=3∨n=4∨n=5∨n=6∨n=7∨n=8∨n=9∨n=10∨n=11∨n=12∨n=13∨n=14∨n=15:=by omega
 rcases h' with rfl | rfl | rfl | rfl | rfl | rfl | rfl | rfl | rfl | rfl | rfl | rfl | rfl | rfl | rfl | rfl <;> rfl
theorem refHex_any (w:World) (v:Value) (n:Nat) (b:List UInt8) (hv:Sees w 1 v n (Bs b)) (hn:n≤1000000):
  Calls Tryz.prog 239 #[v] w fun e w'=>e=.returned (.string (str (hexL b)))∧Chg [] w w':=by
 have hbl:b.length=n:=by have:=hv.len;rw[Bs_length] at this;omega
 have HBL:=zH hbl;clear hbl;obtain⟨ao,cap,rfl,hcap,hnil⟩:=hv.shape;have HNIL:=zH hnil;clear hnil;go_enter Tryz.func239,Tryz.ntmps239;go_wp2_with fail;go_loopg [4,5] n (fun k vo vi wr=>∃(i:Nat),vi=.int .i64 i∧i+k=n∧Fresh w wr 5 1 vo (2 * i) (Bs (hexL (b.take i))));case atStart=>exact⟨0,rfl,by omega,Fresh.nil w _ _⟩
 case round=>
  obtain⟨i,rfl,hik,hf⟩:=hrel;by_cases hlt:i<n
  ·obtain⟨g,off,cap',hv',hc',hcell⟩:=(hv.chg0 hf.chg).at1 (by omega);simp only[Value.slice.injEq,true_and] at hv';obtain⟨rfl,rfl⟩:=hv';have hib:i<b.length:=by have:=HBL.out;omega
   have x0:wr.cell? ⟨g,off+i,none⟩=some (.int .u8 ((b[i]'hib).toNat:Int)):=by rw[hcell i hlt,Bs_get _ _ hib]
   have hx:=(b[i]'hib).toNat_lt;have hsn:=hexL_snoc (b.take i) (b[i]'hib);rw[←List.take_succ_eq_append_getElem hib] at hsn;generalize (b[i]'hib).toNat=x at *;have hand:bits .and .u8 (x:Int) 15=((x % 16:Nat):Int):=by
    have:=(bits_u8 x 15 hx (by decide)).1;rw[show x &&& 15=x % 16 from Nat.and_two_pow_sub_one_eq_mod x 4] at this;exact this
   have hdiv:(x:Int) / 16=((x / 16:Nat):Int):=by simp
   have i1:=fun w=>idxDigits w (x / 16) (by omega)
   have i2:=fun w=>idxDigits w (x % 16) (by omega)
   generalize hxD (x / 16)=d1 at *;generalize hxD (x % 16)=d2 at *;generalize x / 16=q1 at *;generalize x % 16=q2 at *;unfold digitsS at i1 i2;have HSN:=zH hsn;clear hsn;have HIK:=zH hik;clear hik;clear hcell;have hfA:=(hf.to ((Chg.refl [] wr).alloc (.cells #[.int .u8 (d1.toNat:Int),.int .u8 (d2.toNat:Int)] 5)).drew);go_wp2_with fail;go_region_law ((refine step_appF (w0:=w) (by rfl) _ _ 38 (by rfl) sl_u8 (by exact hfA) (by rfl) (Sees.row (cs:=#[.int .u8 (d1.toNat:Int),.int .u8 (d2.toNat:Int)]) (by exact Blk.new wr _ 5) (m:=2) rfl) (by rfl) (by simp[Value.oneCell']) (by omega) (by omega) ?_;intro v3 w3 hF3 c3));all_goals
    go_wp2_with fail;go_roundg (gk - 1);case measure=>have:=HIK.out;omega
    case rel=>
     refine⟨i+1,by go_num,by have:=HIK.out;omega,?_⟩;rw[HSN.out,Bs_append];exact hF3
  ·have hi:i=n:=by omega
   subst hi;rw[List.take_of_length_le (by have:=HBL.out;omega)] at hf;have r1:=run_str8 hf.own.sees;have hcw:=hf.chg;clear hf;go_wp2_with fail;go_ret;exact⟨rfl,hcw⟩
end Go.Proofs.YtlbdklaggalgfaaGreatDoor
namespace Go.Aq
open Go.RowKit
def unD (c:UInt8):Int:=if 48≤c.toNat∧c.toNat≤57 then (c.toNat:Int) - 48 else if 97≤c.toNat∧c.toNat≤102 then (c.toNat:Int) - 87 else -1
theorem unD_index (c:UInt8):Lib.indexByte digitsS.data.toList c=unD c:=by
 have h:∀n,n<256→Lib.indexByte digitsS.data.toList (UInt8.ofNat n)=unD (UInt8.ofNat n):=by decide+kernel
 have:=h c.toNat c.toNat_lt;simpa using this
theorem unD_range (c:UInt8): -1≤unD c∧unD c≤15:=by
 unfold unD;split;·omega
 ·split <;> omega
def unhexL:List UInt8→Option (List UInt8)
 | []=>some []
 | [_]=>none
 | a::b::t=>if unD a<0∨unD b<0 then none else (unhexL t).map fun r=>UInt8.ofNat (16 * (unD a).toNat+(unD b).toNat)::r
theorem unhexL_odd:∀(l:List UInt8),l.length % 2≠0→unhexL l=none
 | [],h=>by simp at h
 | [_],_=>rfl
 | a::b::t,h=>by
  simp only[unhexL];rw[unhexL_odd t (by simp only[List.length_cons] at h;omega)];simp
end Go.Aq
namespace Go.Proofs.YtlbdklaggalgfaaGreatDoor
open Go.RowKit Go.Aq
theorem idxStr (w:World) (s:List UInt8) (j:Nat) (h:j<s.length):(Instr.index 9 (.string (str s)) (.int .i64 (j:Int))).run Tryz.prog w=.ok (.int .u8 ((s[j]'h).toNat:Int)) w:=by
 have hj:j<(str s).size:=by rw[str_size];exact h
 rw[run_index_string w 9 (str s) .i64 j Tryz.underlying9,dif_pos ⟨by omega,by omega⟩];rfl
def Unhexed (w:World) (s:List UInt8) (e:Ending) (w':World):Prop:=
 (∃bs v',unhexL s=some bs∧e=.returned (.tuple #[v',.bool true])∧Fresh w w' 5 1 v' bs.length (Bs bs))∨(unhexL s=none∧e=.returned (.tuple #[.slice none 0 0,.bool false])∧Chg [] w w')
theorem indexDigits (c:UInt8) (w:World):Calls Tryz.prog 133 #[.string digitsS,.int .u8 (c.toNat:Int)] w fun e w'=>e=.returned (.int .i64 (unD c))∧w'=w:=by
 have h:=Tryz.strings_IndexByte digitsS c.toNat w;simp only[Int.toNat_natCast] at h;rw[show c.toNat.toUInt8=c by simp,unD_index] at h;exact h
theorem indexDigits' (c:UInt8) (w:World):Calls Tryz.prog 133 #[.string ⟨#[48,49,50,51,52,53,54,55,56,57,97,98,99,100,101,102]⟩,.int .u8 (c.toNat:Int)] w fun e w'=>e=.returned (.int .i64 (unD c))∧w'=w:=indexDigits c w
theorem or_digits (a b:Nat) (ha:a<16) (hb:b<16):bits .or .i64 ((a:Int) * 16) (b:Int)=((16 * a+b:Nat):Int):=by
 have h:=(bits_i64 (a * 16) b (by omega) (by omega)).2.1;have e:a * 16 ||| b=16 * a+b:=by
  rw[Nat.or_comm];have:=or_shift b a 4 hb;rw[show (2:Nat)^4=16 by decide] at this;rw[this];omega
 rw[e] at h;rw[←h];rfl
theorem unhex_any (w:World) (s:List UInt8) (hs:s.length≤1000000):
  Calls Tryz.prog 142 #[.string (str s)] w (Unhexed w s):=by
 have hsz:=str_size s;by_cases hodd:s.length % 2=0
 ·obtain⟨R,hR⟩:∃R,unhexL s=R:=⟨_,rfl⟩;have HR:=zH hR;clear hR;have t0:(((s.length:Int) % 2) != 0)=false:=by simp;omega
  go_enter Tryz.func142,Tryz.ntmps142;go_wp2_with fail;go_loopg [4,5] s.length (fun k vo vi wr=>∃(i j:Nat) (out:List UInt8),vi=.int .i64 j∧j=2 * i∧j+k=s.length∧out.length=i∧R=(unhexL (s.drop j)).map (out++·)∧Fresh w wr 5 1 vo i (Bs out));case atStart=>exact⟨0,0,[],rfl,rfl,by omega,rfl,by rw[←HR.out];simp,Fresh.nil w _ _⟩
  case round=>
   obtain⟨i,j,out,rfl,hji,hik,hol,hRd,hf⟩:=hrel;have HOL:=zH hol;clear hol;have hi5:i≤1000000:=by omega
   by_cases hlt:j<s.length
   ·have hlt2:j+1<s.length:=by omega
    have HJI:=zH hji;clear hji;have hd:s.drop j=s[j]::s[j+1]::s.drop (j+2):=by
     rw[List.drop_eq_getElem_cons hlt,List.drop_eq_getElem_cons hlt2]
    rw[hd] at hRd;have x1:=fun w=>idxStr w s j hlt
    have x2:=fun w=>idxStr w s (j+1) hlt2
    have hz1:((j:Nat):Int)+1=((j+1:Nat):Int):=by omega
    obtain⟨J1,hJ1⟩:∃J1,J1=j+1:=⟨_,rfl⟩;generalize s[j]=a at *;generalize s[j+1]=b at *;rw[←hJ1] at x2 hz1;obtain⟨ra1,ra2⟩:=unD_range a;obtain⟨rb1,rb2⟩:=unD_range b;simp only[unhexL] at hRd;have HRD:=zH hRd;clear hRd;have HIK:=zH hik;clear hik;have HJ1:=zH hJ1;clear hJ1 hd;have tj:decide ((j:Int)<(s.length:Int))=true:=by simp;omega
    have tj':decide (j<s.length)=true:=by simp;omega
    by_cases hbad:unD a<0∨unD b<0
    ·have e:=HRD.out;rw[if_pos hbad] at e;have HRN:=zH e;clear e HRD;by_cases ha:unD a<0
     ·have t1:decide (unD a<0)=true:=by simpa using ha
      have hcw:=hf.chg.drewN;clear hbad ha hf;go_wp2_with fail;go_quiet ((exact Calls.quiet_of_same (indexDigits' _ _)));have hcw2:=hcw nq;generalize wr.drewN nq=w2 at *;go_wp2_with fail;go_ret2;exact .inr ⟨by rw[HR.out,HRN.out];rfl,rfl,hcw2⟩
     ·have t1:decide (unD a<0)=false:=by simpa using ha
      have t2:decide (unD b<0)=true:=by simp;omega
      have hcw:=hf.chg.drewN;clear hbad ha hf;go_wp2_with fail;go_quiet ((exact Calls.quiet_of_same (indexDigits' _ _)));have hcw2:=hcw nq;generalize wr.drewN nq=w2 at *;go_wp2_with fail;go_ret2;exact .inr ⟨by rw[HR.out,HRN.out];rfl,rfl,hcw2⟩
    ·have e:=HRD.out;rw[if_neg hbad] at e;have HRS:=zH e;clear e HRD;have t1:decide (unD a<0)=false:=by simp;omega
     have t2:decide (unD b<0)=false:=by simp;omega
     obtain⟨A,hA⟩:∃A:Nat,unD a=A:=⟨(unD a).toNat,by omega⟩;obtain⟨B,hB⟩:∃B:Nat,unD b=B:=⟨(unD b).toNat,by omega⟩;have hA16:A<16:=by omega
     have hB16:B<16:=by omega
     have hor:=or_digits A B hA16 hB16;rw[hA] at t1 HRS;rw[hB] at t2 HRS;simp only[Int.toNat_natCast] at HRS;have HA:=zH hA;have HB:=zH hB;clear hbad hA hB ra1 ra2 rb1 rb2;go_wp2_with fail;go_quiet ((exact Calls.quiet_of_same (indexDigits' _ _)));rw[HA.out,HB.out];have hf2:=hf.to ((Chg.refl [] wr).drewN nq);generalize wr.drewN nq=w2 at *;clear hf;obtain⟨N,hN⟩:∃N:Nat,16 * A+B=N:=⟨_,rfl⟩;have hN256:N<256:=by omega
     rw[hN] at HRS hor;have hev:(((UInt8.ofNat N).toNat:Nat):Int)=(N:Int):=by rw[UInt8.toNat_ofNat',Nat.mod_eq_of_lt hN256]
     have HEV:=zH hev;clear hN hev;go_wp2_with (at_builtin;refine wpList_appF (w0:=w) rfl _ _ 38 rfl sl_u8 (by exact hf2.to ((Chg.refl [] w2).alloc (.cells #[.int .u8 (N:Int)] 5))) rfl (Sees.row (cs:=#[.int .u8 (N:Int)]) (by exact Blk.new w2 _ 5) (m:=1) rfl) rfl (by simp[Value.oneCell']) (by omega) (by omega) ?_;intro v3 w3 hF3 c3);go_roundg (gk - 2);case measure=>have:=HIK.out;omega
     case rel=>
      refine⟨i+1,j+2,out++[UInt8.ofNat N],by go_num,by have:=HJI.out;omega,by have:=HIK.out;omega,by simp;exact HOL.out,?_,?_⟩
      ·rw[HRS.out,Option.map_map];congr 1;funext r;simp
      ·rw[Bs_append];have:Bs [UInt8.ofNat N]=[.int .u8 (N:Int)]:=by simp only[Bs,List.map_cons,List.map_nil,Bc,HEV.out]
       rw[this];exact hF3
   ·have hj:j=s.length:=by omega
    have tj:decide ((j:Int)<(s.length:Int))=false:=by simp;omega
    have tj':decide (j<s.length)=false:=by simp;omega
    rw[List.drop_of_length_le (by omega)] at hRd;have HRD:=zH hRd;have HX:=zH hj;clear hRd hlt hji hik hj;go_wp2_with fail;go_ret2;refine .inl ⟨out,_,by rw[HR.out,HRD.out];simp[unhexL],rfl,?_⟩;rw[HOL.out];exact hf
 ·have e:=unhexL_odd s (by omega);have HE:=zH e;clear e;have t0:(((s.length:Int) % 2) != 0)=true:=by simp;omega
  go_enter Tryz.func142,Tryz.ntmps142;go_wp2_with fail;go_ret2;exact .inr ⟨HE.out,rfl,Chg.refl _ _⟩
theorem digit_any (c:UInt8) (w:World):Calls Tryz.prog 240 #[.int .u8 (c.toNat:Int)] w fun e w'=>e=.returned (.int .i64 (unD c))∧w'=w:=by
 have hc:=c.toNat_lt;obtain⟨R,hR⟩:∃R,unD c=R:=⟨_,rfl⟩;rw[hR];unfold unD at hR;generalize c.toNat=x at *;by_cases h1:48≤x∧x≤57
 ·rw[if_pos h1] at hR;have HR:=zH hR;clear hR;obtain⟨h1,h2⟩:=h1;go_enter Tryz.func240,Tryz.ntmps240
  go_wp2
  go_ret;exact⟨ret_int HR.out,rfl⟩
 ·rw[if_neg h1] at hR;have t1:x<48∨57<x:=by omega
  by_cases h2:97≤x∧x≤102
  ·rw[if_pos h2] at hR;have HR:=zH hR;clear hR;obtain⟨h2,h3⟩:=h2;clear h1 t1;have t2:57<x:=by omega
   have t3:48≤x:=by omega
   go_enter Tryz.func240,Tryz.ntmps240
   go_wp2
   go_ret;exact⟨ret_int (by have:=HR.out;omega),rfl⟩
  ·rw[if_neg h2] at hR;have HR:=zH hR;clear hR;go_enter Tryz.func240,Tryz.ntmps240
   go_wp2
   all_goals first
    | (exfalso;omega)
    | (go_ret;exact⟨ret_int (by have:=HR.out;omega),rfl⟩)
theorem refUnhex_any (w:World) (s:List UInt8) (hs:s.length≤1000000):
  Calls Tryz.prog 214 #[.string (str s)] w (Unhexed w s):=by
 have hsz:=str_size s;by_cases hodd:s.length % 2=0
 ·obtain⟨R,hR⟩:∃R,unhexL s=R:=⟨_,rfl⟩;have HR:=zH hR;clear hR;have t0:(((s.length:Int) % 2) != 0)=false:=by simp;omega
  go_enter Tryz.func214,Tryz.ntmps214;go_wp2_with fail;go_loopg [4,5] s.length (fun k vo vi wr=>∃(i j:Nat) (out:List UInt8),vi=.int .i64 j∧j=2 * i∧j+k=s.length∧out.length=i∧R=(unhexL (s.drop j)).map (out++·)∧Fresh w wr 5 1 vo i (Bs out));case atStart=>exact⟨0,0,[],rfl,rfl,by omega,rfl,by rw[←HR.out];simp,Fresh.nil w _ _⟩
  case round=>
   obtain⟨i,j,out,rfl,hji,hik,hol,hRd,hf⟩:=hrel;have HOL:=zH hol;clear hol;have hi5:i≤1000000:=by omega
   by_cases hlt:j<s.length
   ·have hlt2:j+1<s.length:=by omega
    have HJI:=zH hji;clear hji;have hd:s.drop j=s[j]::s[j+1]::s.drop (j+2):=by
     rw[List.drop_eq_getElem_cons hlt,List.drop_eq_getElem_cons hlt2]
    rw[hd] at hRd;have x1:=fun w=>idxStr w s j hlt
    have x2:=fun w=>idxStr w s (j+1) hlt2
    have hz1:((j:Nat):Int)+1=((j+1:Nat):Int):=by omega
    obtain⟨J1,hJ1⟩:∃J1,J1=j+1:=⟨_,rfl⟩;generalize s[j]=a at *;generalize s[j+1]=b at *;rw[←hJ1] at x2 hz1;obtain⟨ra1,ra2⟩:=unD_range a;obtain⟨rb1,rb2⟩:=unD_range b;simp only[unhexL] at hRd;have HRD:=zH hRd;clear hRd;have HIK:=zH hik;clear hik;have HJ1:=zH hJ1;clear hJ1 hd;have tj:decide ((j:Int)<(s.length:Int))=true:=by simp;omega
    have tj':decide (j<s.length)=true:=by simp;omega
    by_cases hbad:unD a<0∨unD b<0
    ·have e:=HRD.out;rw[if_pos hbad] at e;have HRN:=zH e;clear e HRD;by_cases ha:unD a<0
     ·have t1:decide (unD a<0)=true:=by simpa using ha
      have hcw:=hf.chg.drewN;clear hbad ha hf;go_wp2_with fail;go_quiet ((exact Calls.quiet_of_same (digit_any _ _)));have hcw2:=hcw nq;generalize wr.drewN nq=w2 at *;go_wp2_with fail;go_ret2;exact .inr ⟨by rw[HR.out,HRN.out];rfl,rfl,hcw2⟩
     ·have t1:decide (unD a<0)=false:=by simpa using ha
      have t2:decide (unD b<0)=true:=by simp;omega
      have hcw:=hf.chg.drewN;clear hbad ha hf;go_wp2_with fail;go_quiet ((exact Calls.quiet_of_same (digit_any _ _)));have hcw2:=hcw nq;generalize wr.drewN nq=w2 at *;go_wp2_with fail;go_ret2;exact .inr ⟨by rw[HR.out,HRN.out];rfl,rfl,hcw2⟩
    ·have e:=HRD.out;rw[if_neg hbad] at e;have HRS:=zH e;clear e HRD;have t1:decide (unD a<0)=false:=by simp;omega
     have t2:decide (unD b<0)=false:=by simp;omega
     obtain⟨A,hA⟩:∃A:Nat,unD a=A:=⟨(unD a).toNat,by omega⟩;obtain⟨B,hB⟩:∃B:Nat,unD b=B:=⟨(unD b).toNat,by omega⟩;have hA16:A<16:=by omega
     have hB16:B<16:=by omega
     have hor:=or_digits A B hA16 hB16;rw[hA] at t1 HRS;rw[hB] at t2 HRS;simp only[Int.toNat_natCast] at HRS;have HA:=zH hA;have HB:=zH hB;clear hbad hA hB ra1 ra2 rb1 rb2;go_wp2_with fail;go_quiet ((exact Calls.quiet_of_same (digit_any _ _)));rw[HA.out,HB.out];have hf2:=hf.to ((Chg.refl [] wr).drewN nq);generalize wr.drewN nq=w2 at *;clear hf;obtain⟨N,hN⟩:∃N:Nat,16 * A+B=N:=⟨_,rfl⟩;have hN256:N<256:=by omega
     rw[hN] at HRS hor;have hev:(((UInt8.ofNat N).toNat:Nat):Int)=(N:Int):=by rw[UInt8.toNat_ofNat',Nat.mod_eq_of_lt hN256]
     have HEV:=zH hev;clear hN hev;go_wp2_with (at_builtin;refine wpList_appF (w0:=w) rfl _ _ 38 rfl sl_u8 (by exact hf2.to ((Chg.refl [] w2).alloc (.cells #[.int .u8 (N:Int)] 5))) rfl (Sees.row (cs:=#[.int .u8 (N:Int)]) (by exact Blk.new w2 _ 5) (m:=1) rfl) rfl (by simp[Value.oneCell']) (by omega) (by omega) ?_;intro v3 w3 hF3 c3);go_roundg (gk - 2);case measure=>have:=HIK.out;omega
     case rel=>
      refine⟨i+1,j+2,out++[UInt8.ofNat N],by go_num,by have:=HJI.out;omega,by have:=HIK.out;omega,by simp;exact HOL.out,?_,?_⟩
      ·rw[HRS.out,Option.map_map];congr 1;funext r;simp
      ·rw[Bs_append];have:Bs [UInt8.ofNat N]=[.int .u8 (N:Int)]:=by simp only[Bs,List.map_cons,List.map_nil,Bc,HEV.out]
       rw[this];exact hF3
   ·have hj:j=s.length:=by omega
    have tj:decide ((j:Int)<(s.length:Int))=false:=by simp;omega
    have tj':decide (j<s.length)=false:=by simp;omega
    rw[List.drop_of_length_le (by omega)] at hRd;have HRD:=zH hRd;have HX:=zH hj;clear hRd hlt hji hik hj;go_wp2_with fail;go_ret2;refine .inl ⟨out,_,by rw[HR.out,HRD.out];simp[unhexL],rfl,?_⟩;rw[HOL.out];exact hf
 ·have e:=unhexL_odd s (by omega);have HE:=zH e;clear e;have t0:(((s.length:Int) % 2) != 0)=true:=by simp;omega
  go_enter Tryz.func214,Tryz.ntmps214;go_wp2_with fail;go_ret2;exact .inr ⟨HE.out,rfl,Chg.refl _ _⟩
end Go.Proofs.YtlbdklaggalgfaaGreatDoor
