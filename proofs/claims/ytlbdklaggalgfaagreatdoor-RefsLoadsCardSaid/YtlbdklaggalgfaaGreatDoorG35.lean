/- WordE WordF WordG WordH -/
import Derived.Test.YtlbdklaggalgfaaGreatDoorG34
set_option linter.unusedVariables false
set_option maxHeartbeats 2000000
namespace Go.Aq
open Go.RowKit
theorem builder_kept {T e:TypeId} {B b:Nat} {bs:List Value} {w w':World} (h:Lib.IsBuilder T e B b bs w) (hk:∀(k:Nat) (c:Array Value) (t:TypeId) (fz:Nat×Nat),w.heap[k]?=some (Obj.cells c t fz)→w'.heap[k]?=some (Obj.cells c t fz)):Lib.IsBuilder T e B b bs w':=by
 have one:∀p,Lib.BuilderAt T e B b p bs w→Lib.BuilderAt T e B b p bs w':=by
  rintro p ⟨hB,v,hb,hown,hne⟩;refine⟨hB,v,hk _ _ _ _ hb,⟨hown.1,?_⟩,hne⟩;rcases hown.2 with h2 | ⟨g,cap,cur,hv,hbg,hg,r⟩
  ·exact .inl h2
  ·exact .inr ⟨g,cap,cur,hv,hbg,hk _ _ _ _ hg,r⟩
 rcases h with h | h
 ·exact .inl (one _ h)
 ·exact .inr (one _ h)
theorem builder_iter {T e:TypeId} {B b:Nat} {bs:List Value} {w:World} (h:Lib.IsBuilder T e B b bs w) {k:Nat} {s:ByteArray} {pos:Nat} (hk:w.heap[k]?=some (.stringIter s pos)) (pos':Nat):Lib.IsBuilder T e B b bs (w.iterAt k s pos'):=
 builder_kept h fun j c t fz hj=>by
  rw[Lib.iterAt_other w k j s pos' (by rintro rfl;rw[hk] at hj;cases hj)];exact hj
theorem builder_chg {T e:TypeId} {B b:Nat} {bs:List Value} {w w':World} (h:Lib.IsBuilder T e B b bs w) (hc:Chg [] w w'):Lib.IsBuilder T e B b bs w':=
 builder_kept h fun j c t fz hj=>by rw[hc.block j (Array.getElem?_eq_some_iff.1 hj).1 (by simp)];exact hj
namespace Wd
theorem writ_len (c:Nat):(writ c).length≤6:=by
 unfold writ;split;·simp
 ·split;·simp
  ·split;·unfold hexC;split <;> simp
   ·have:=enc1_len c;omega
theorem writs_len (rs:List Nat):(rs.flatMap writ).length≤6 * rs.length:=by
 induction rs with
 | nil=>simp
 | cons c t ih=>rw[List.flatMap_cons,List.length_append,List.length_cons];have:=writ_len c;omega
theorem encL_len (rs:List Nat):rs.length≤(encL rs).length:=by
 induction rs with
 | nil=>simp
 | cons c t ih=>rw[encL_cons,List.length_append,List.length_cons];have:=enc1_len c;omega
end Wd
end Go.Aq
namespace Go.Proofs.YtlbdklaggalgfaaGreatDoor
open Go.RowKit Go.Aq Go.Aq.Wd
theorem quote_any (l:List UInt8) (w:World) (hT:Tabs w) (hl:l.length≤1000000000):
  Calls Tryz.prog 27 #[.string (str l)] w fun e w'=>e=.returned (.tuple #[.string (str (quoteL l).1),.int .i64 (quoteL l).2])∧Chg [] w w':=by
 have hsz:=str_size l;have hca:=count_any l w hT hl;cases hs:sigs l with
 | none=>
  have hcl:countL l=(0,4):=by unfold countL;rw[hs]
  have hp:quoteL l=([],4):=by unfold quoteL;rw[hs]
  rw[hp];rw[hcl] at hca;go_enter Tryz.func27,Tryz.ntmps27;go_wp2_with fail;refine hca.mono ?_;rintro e w1 ⟨rfl,c1⟩;go_wp2_with fail;go_ret2;exact⟨rfl,c1⟩
 | some rs=>
  have hcl:=countL_of hs;have hp:quoteL l=(quoteR rs,0):=by unfold quoteL;rw[hs]
  obtain⟨he,ok⟩:=sigs_enc hs;rw[hp];rw[hcl] at hca;have hca:Calls Tryz.prog 85 #[.string (str l)] w fun e w'=>e=.returned (.tuple #[.int .i64 (rs.length:Nat),.int .i64 0])∧Chg [] w w':=hca
  have HOK:=zH ok;have HE:=zH he;clear ok he hp hcl hs;go_enter Tryz.func27,Tryz.ntmps27;go_wp2_with fail;refine hca.mono ?_;rintro e w1 ⟨rfl,c1⟩;clear hca;have hI0:Lib.IsBuilder 68 5 w1.heap.size w1.heap.size (Bs []) (w1.alloc (.cells #[.pointer none,.slice none 0 0] 68)):=Lib.fresh_isBuilder 68 5 w1;have hB0:Below w1.heap.size w1 (w1.alloc (.cells #[.pointer none,.slice none 0 0] 68)):=(Below.refl _ w1).alloc (Nat.le_refl _) _;obtain⟨B,hB⟩:∃B,w1.heap.size=B:=⟨_,rfl⟩;rw[hB] at hI0 hB0;go_wp2_with fail;refine (wByte B B [] 34 _ hI0 (by simp) (by simp;omega)).mono ?_;rintro e w2 ⟨rfl,hI1,hb2,k2⟩;have hB2:=hB0.trans hb2;obtain⟨K,hK⟩:∃K,w2.heap.size=K:=⟨_,rfl⟩;have hKB:B<K:=by have:=hb2.size;simp at this;omega
  clear hI0 hB0 hb2 k2;generalize w1.alloc _=wz at *;go_wp2_with fail;go_loopg [] l.length (fun k wr=>∃(pos j:Nat),pos+k=l.length∧j≤rs.length∧pos=(encL (rs.take j)).length∧wr.heap[K]?=some (.stringIter (str l) pos)∧Below B w1 wr∧B≤wr.heap.size∧
   Lib.IsBuilder 68 5 B B (Bs ([34]++(rs.take j).flatMap writ)) wr)
  case atStart=>
   refine⟨0,0,by omega,by omega,by simp[encL],?_,hB2.alloc (by omega) _,by simp[World.iter];omega,builder_chg hI1 ((Chg.refl [] w2).range _ _)⟩;rw[←hK];exact World.iter_heap w2 (str l) 0
  case round=>
   clear hI1 hB2;obtain⟨pos,j,hpk,hjl,hpos,hit,hbw,hBs,hI⟩:=hrel;have hlt:=place_lt rs j hjl;rw[←hpos,←HE.out] at hlt;have hjp:j≤pos:=by
    have:=encL_len (rs.take j);rw[←hpos,List.length_take] at this;omega
   have hwl:=writs_len (rs.take j);rw[List.length_take] at hwl;by_cases hp:pos<l.length
   ·have hj:=hlt.1 hp;have hnx:=fun ty=>next_at l wr K pos hit hp ty
    obtain⟨hd,hnp⟩:=place_step rs HOK.out j hj;rw[←hpos,←HE.out] at hd;rw[←hpos] at hnp;have hfit:=dec_fits l pos hp;have hdp:=dec_pos (l.drop pos);have hokc:=HOK.out rs[j] (List.getElem_mem hj);have hbn:=Lib.below_iterAt hbw (k:=K) (by omega) (str l) (pos+(dec (l.drop pos)).2);have hitn:=Lib.iterAt_heap wr K (str l) pos (pos+(dec (l.drop pos)).2) hit;have hIn:=builder_iter hI hit (pos+(dec (l.drop pos)).2);have hBn:B≤(wr.iterAt K (str l) (pos+(dec (l.drop pos)).2)).heap.size:=by rw[Lib.iterAt_size];exact hBs
    have hts:=List.take_succ_eq_append_getElem hj;rw[hd] at hnx hbn hitn hfit hdp hIn hBn;generalize rs[j]=c at *;have hwc:=writ_len c;generalize hen:(enc1 c).length=nn at *;simp only at hnx hbn hitn hfit hdp hIn hBn;generalize wr.iterAt K (str l) (pos+nn)=w3 at *;have hT3:Tabs w3:=hT.chg (c1.nil (Chg.of_below (by rw[hB];exact hbn)));have hws:=fun w4 (h4:Lib.IsBuilder 68 5 B B (Bs ([34]++(rs.take j).flatMap writ)) w4)=>wString B B ([34]++(rs.take j).flatMap writ) (writ c) w4 h4 (by simp only[List.length_append,List.length_cons,List.length_nil];omega)
    have HP:=zA hpk hnp;have HTS:=zH hts;clear hd hit hbw hBs hI hlt hpk hnp hpos hts hen hwl hwc;go_wp2_with fail;refine (written_any c hokc w3 hT3).mono ?_;rintro e w4 ⟨rfl,c4⟩;have hI4:=builder_chg hIn c4;have hit4:=(c4.block K (Array.getElem?_eq_some_iff.1 hitn).1 (by simp)).trans hitn;have hb4:Below B w1 w4:=hbn.trans (c4.below hBn (by simp));have hB4:B≤w4.heap.size:=Nat.le_trans hBn c4.size;clear hIn hitn hbn hBn c4;go_wp2_with fail;refine (hws w4 hI4 hB4).mono ?_;rintro e w5 ⟨rfl,hI5,hb5,k5⟩;have hit5:=k5.iter hit4 (by omega);have hb15:=hb4.trans hb5;have hB5:B≤w5.heap.size:=Nat.le_trans hB4 hb5.size;clear hws hI4 hit4 hb4 k5;go_wp2_with fail;go_roundg (gk - nn);case measure=>have:=HP.out;omega
    case rel=>
     refine⟨pos+nn,j+1,by have:=HP.out;omega,by omega,HP.out.2.symm,hit5,hb15,hB5,?_⟩;rw[HTS.out,List.flatMap_append];simpa[List.append_assoc] using hI5
   ·have hnx:=fun ty=>next_end l wr K pos hit hp ty
    have hj:rs.length≤j:=by have:=mt hlt.2 hp;omega
    rw[List.take_of_length_le hj] at hI;have hwl2:=writs_len rs;have hrl:rs.length≤1000000000:=by omega
    have hwb:=wByte B B ([34]++rs.flatMap writ) 34 wr hI (by simp only[List.length_append,List.length_cons,List.length_nil];omega) hBs;clear hpos hlt hwl;go_wp2_with fail;refine hwb.mono ?_;rintro e w3 ⟨rfl,hI3,hb3,k3⟩;have hB3:B≤w3.heap.size:=Nat.le_trans hBs hb3.size;clear hwb;go_wp2_with fail;refine (Tryz.Builder_String_any B B _ w3 hI3 hB3).mono ?_;rintro e w4 ⟨rfl,hb4⟩;go_wp2_with fail;go_ret2;exact⟨rfl,c1.nil (Chg.of_below (by rw[hB];exact (hbw.trans hb3).trans hb4))⟩
end Go.Proofs.YtlbdklaggalgfaaGreatDoor
namespace Go.Aq
open Go.RowKit
theorem own_full (w:World) (cs:Array Value) (e:TypeId) (m:Nat) (hm:cs.size=m) (hb:m≤9223372036854775807):Own (w.alloc (.cells cs e)) e 1 (.slice (some ⟨w.heap.size,0,none⟩) m m) m cs.toList:=
 ⟨by simp[hm],.inr ⟨w.heap.size,m,cs,rfl,Nat.zero_le _,heap_alloc_new w _,Nat.le_refl _,by unfold maxLen;omega,by simp[hm],List.take_of_length_le (by simp[hm])⟩⟩
end Go.Aq
namespace Go.Aq.Wd
def Rs (l:List Nat):List Value:=l.map fun (c:Nat)=>Value.int .i32 (c:Int)
theorem Rs_append (a b:List Nat):Rs (a++b)=Rs a++Rs b:=by simp[Rs]
end Go.Aq.Wd
namespace Go.Proofs.YtlbdklaggalgfaaGreatDoor
open Go.RowKit Go.Aq Go.Aq.Wd
theorem sl_i32:SliceTy Tryz.prog 300 21 (.int .i32 0) 1 4:=⟨Tryz.underlying300,by kernel_rfl,rfl,by decide⟩
theorem escapes_any (w:World):Calls Tryz.prog 253 #[] w fun e w'=>∃v,e=.returned v∧Fresh w w' 21 1 v 67 (Rs escs):=by
 have hf0:Fresh w (w.alloc (.cells #[.int .i32 34,.int .i32 92] 21)) 21 1 (.slice (some ⟨w.heap.size,0,none⟩) 2 2) 2 (Rs ([34,92]++List.range 0)):=
  ⟨own_full w #[.int .i32 34,.int .i32 92] 21 2 rfl (by decide),(Chg.refl _ _).alloc _,by simp[Value.ownBlock]⟩
 generalize hw0:w.alloc (.cells #[.int .i32 34,.int .i32 92] 21)=w0 at *;go_enter Tryz.func253,Tryz.ntmps253;go_wp2_with fail;go_loopg [1,2] 32 (fun k vl vc wr=>∃(j:Nat),vc=.int .i32 j∧j+k=32∧Fresh w wr 21 1 vl (2+j) (Rs ([34,92]++List.range j)));case atStart=>exact⟨0,rfl,by omega,hf0⟩
 case round=>
  clear hf0 hw0;obtain⟨j,rfl,hjk,hf⟩:=hrel;by_cases hj:j<32
  ·have t1:decide ((j:Int)<32)=true:=by simp;omega
   have HJ:=zH hjk;clear hjk;go_wp2_with (at_builtin;refine wpList_appF (w0:=w) rfl _ _ 300 rfl sl_i32 (by exact hf.to ((Chg.refl [] wr).alloc (.cells #[.int .i32 (j:Int)] 21))) rfl (Sees.row (cs:=#[.int .i32 (j:Int)]) (by exact Blk.new wr _ 21) (m:=1) rfl) rfl (by simp[Value.oneCell']) (by omega) (by omega) ?_;intro v4 w4 hF4 c4);go_roundg (gk - 1);case measure=>have:=HJ.out;omega
   case rel=>
    refine⟨j+1,by go_num,by have:=HJ.out;omega,?_⟩;rw[List.range_succ,←List.append_assoc,Rs_append ([34,92]++List.range j)];exact hF4
  ·have h32:j=32:=by omega
   subst h32;have hf1:Fresh w wr 21 1 u1 (34+0) (Rs ([34,92]++List.range 32++(List.range 0).map (127+·))):=hf;obtain⟨wo,hwo⟩:∃wo:World,wo=wr:=⟨_,rfl⟩;rw[←hwo] at hf1;clear hf hjk hj;subst hwo;go_wp2_with fail;go_loopg [1,3] 33 (fun k vl vc wr=>∃(j:Nat) (q:Int),vc=.int .i32 q∧q=127+(j:Int)∧j+k=33∧Fresh w wr 21 1 vl (34+j) (Rs ([34,92]++List.range 32++(List.range j).map (127+·))));case atStart=>exact⟨0,127,rfl,by omega,by omega,hf1⟩
   case round=>
    clear hf1;obtain⟨j,q,rfl,hq,hjk,hf⟩:=hrel;by_cases hj:j<33
    ·have t1:decide (q≤159)=true:=by simp;omega
     have hqb:q≤159:=by omega
     have hqb0:127≤q:=by omega
     have HJ:=zA hq hjk;clear hjk hq;go_wp2_with (at_builtin;refine wpList_appF (w0:=w) rfl _ _ 300 rfl sl_i32 (by exact hf.to ((Chg.refl [] wr).alloc (.cells #[.int .i32 q] 21))) rfl (Sees.row (cs:=#[.int .i32 q]) (by exact Blk.new wr _ 21) (m:=1) rfl) rfl (by simp[Value.oneCell']) (by omega) (by omega) ?_;intro v4 w4 hF4 c4);go_roundg (gk - 1);case measure=>have:=HJ.out;omega
     case rel=>
      refine⟨j+1,_,rfl,by have:=HJ.out;omega,by have:=HJ.out;omega,?_⟩;have e:Rs [127+j]=[.int .i32 q]:=by simp[Rs];have:=HJ.out;omega
      rw[List.range_succ (n:=j),List.map_append,←List.append_assoc,Rs_append ([34,92]++List.range 32++_)];simp only[List.map_cons,List.map_nil];rw[e];exact hF4
    ·have h33:j=33:=by omega
     subst h33;have t1:decide (q≤159)=false:=by simp;omega
     have t2:¬(q≤159):=by omega
     go_wp2_with fail;go_ret;exact⟨_,rfl,hf⟩
def Rd (w:World) (R:Nat) (l:List UInt8) (at_ e:Nat):Prop:=Blk w R #[.string (str l),.int .i64 (at_:Nat),.int .i64 (e:Nat)] 242
theorem fail_any (w:World) (R:Nat) (l:List UInt8) (p e0 e:Nat) (h:Rd w R l p e0):
  Calls Tryz.prog 210 #[.pointer (some ⟨R,0,none⟩),.int .i64 e] w fun x w'=>x=.returned (.tuple #[])∧Rd w' R l p e∧Chg [R] w w':=by
 have f2:=Blk.frozen h 2;have c2:=Blk.cell h 2;have hb:=Blk.set h 2 (.int .i64 (e:Nat));have hc:Chg [R] w (w.setCell ⟨R,2,none⟩ (.int .i64 (e:Nat))):=(Chg.refl [R] w).setCell (by simp) _;simp only[List.getElem?_toArray,List.getElem?_cons_succ,List.getElem?_cons_zero] at c2;go_enter Tryz.func210,Tryz.ntmps210
 go_wp2
 go_end0
 exact⟨rfl,hb,hc⟩
def sgnR (r:List UInt8) (e0:Nat):Nat×Nat×Nat:=if r=[] then (65533,0,e0) else if bad (dec r) || low (dec r).1 then (0,0,4) else ((dec r).1,(dec r).2,e0)
theorem sign_any (w:World) (hT:Tabs w) (R:Nat) (l:List UInt8) (p e0:Nat) (h:Rd w R l p e0) (hp:p≤l.length) (hl:l.length≤1000000000):
  Calls Tryz.prog 209 #[.pointer (some ⟨R,0,none⟩)] w fun x w'=>x=.returned (.tuple #[.int .i32 (sgnR (l.drop p) e0).1,.int .i64 (sgnR (l.drop p) e0).2.1])∧Rd w' R l p (sgnR (l.drop p) e0).2.2∧Chg [R] w w':=by
 have hsz:=str_size l;have he:=str_from l p;have c0:w.cell? ⟨R,0,none⟩=some (.string (str l)):=Blk.cell h 0;have c1:w.cell? ⟨R,1,none⟩=some (.int .i64 (p:Nat)):=Blk.cell h 1;have hpi:(p:Int)≤(l.length:Int):=by omega
 have hTd:Tabs w.drew:=hT.chg (Chg.refl [] w).drew;have hda:=dec_any (l.drop p) w.drew hTd;have hG:decG (l.drop p)=if l.drop p=[] then (65533,0) else dec (l.drop p):=rfl
 have hS:sgnR (l.drop p) e0=if l.drop p=[] then (65533,0,e0) else if bad (dec (l.drop p)) || low (dec (l.drop p)).1 then (0,0,4) else ((dec (l.drop p)).1,(dec (l.drop p)).2,e0):=rfl
 have hd1:=dec_fst (l.drop p);have hdp:=dec_pos (l.drop p);have hbd:=bad_iff (dec (l.drop p));generalize l.drop p=r at *;by_cases hr:r=[]
 ·rw[if_pos hr] at hG hS;rw[hG] at hda;rw[hS];clear hG hS hd1 hdp hbd hr;go_enter Tryz.func209,Tryz.ntmps209;go_wp2_with fail;go_region_held3 (fun w'=>w'.cell? ⟨R,0,none⟩=some (.string (str l))∧w'.cell? ⟨R,1,none⟩=some (.int .i64 (p:Nat))) (first | exact⟨c0,c1⟩ | exact⟨m0,m1⟩)
   (first | (go_at_call 189;refine hda.mono ?_;rintro e w2 ⟨rfl,c2⟩;have m0:=c2.cell_some c0 (by simp);have m1:=c2.cell_some c1 (by simp)))
  have hR2:Rd w2 R l p e0:=Blk.chg0 (Blk.drew h) c2;go_wp2_with fail;go_ret2;exact⟨rfl,hR2,((Chg.refl [R] w).drew).nil c2⟩
 ·rw[if_neg hr] at hG hS;rw[hG] at hda;generalize dec r=d at *;obtain⟨c,n⟩:=d;simp only at hd1 hdp hS hda;have t0:((n:Int)==0)=false:=by simp;omega
  clear hr;by_cases hbl:(bad (c,n) || low c)=true
  ·rw[if_pos hbl] at hS;rw[hS];clear hG hS;by_cases hb:bad (c,n)=true
   ·have hcn:=hbd.1 hb;simp only[Prod.mk.injEq] at hcn;obtain⟨rfl,rfl⟩:=hcn;clear hbd hb hbl;go_enter Tryz.func209,Tryz.ntmps209;go_wp2_with fail;go_region_held3 (fun w'=>w'.cell? ⟨R,0,none⟩=some (.string (str l))∧w'.cell? ⟨R,1,none⟩=some (.int .i64 (p:Nat))) (first | exact⟨c0,c1⟩ | exact⟨m0,m1⟩)
     (first | (go_at_call 189;refine hda.mono ?_;rintro e w2 ⟨rfl,c2⟩;have m0:=c2.cell_some c0 (by simp);have m1:=c2.cell_some c1 (by simp)))
    have hR2:Rd w2 R l p e0:=Blk.chg0 (Blk.drew h) c2;have hc2:=((Chg.refl [R] w).drew).nil c2;go_wp2_with fail;refine (fail_any w2 R l p e0 4 hR2).mono ?_;rintro e w3 ⟨rfl,hR3,c3⟩;go_wp2_with fail;go_ret2;exact⟨rfl,hR3,hc2.tr c3⟩
   ·have hbf:bad (c,n)=false:=by simpa using hb
    have hlow:low c=true:=by rw[hbf] at hbl;simpa using hbl
    have hnb:¬(c=65533∧n=1):=fun hh=>hb (by rw[hh.1,hh.2];rfl)
    have t1:((c:Int)==65533)=false:=by
     have:c<256:=by simp only[low,Bool.or_eq_true,Bool.and_eq_true,decide_eq_true_eq] at hlow;omega
     simp;omega
    clear hbd hb hbl hnb hbf;go_enter Tryz.func209,Tryz.ntmps209;go_wp2_with fail;go_region_held3 (fun w'=>w'.cell? ⟨R,0,none⟩=some (.string (str l))∧w'.cell? ⟨R,1,none⟩=some (.int .i64 (p:Nat))) (first | exact⟨c0,c1⟩ | exact⟨m0,m1⟩)
     (first | (go_at_call 189;refine hda.mono ?_;rintro e w2 ⟨rfl,c2⟩;have m0:=c2.cell_some c0 (by simp);have m1:=c2.cell_some c1 (by simp)))
    have hR2:Rd w2 R l p e0:=Blk.chg0 (Blk.drew h) c2;have hc2:=((Chg.refl [R] w).drew).nil c2;go_wp2_with fail;refine (low_any c (by omega) w2).mono ?_;rintro e w3 ⟨rfl,rfl⟩;rw[hlow];go_wp2_with fail;refine (fail_any w3 R l p e0 4 hR2).mono ?_;rintro e w4 ⟨rfl,hR3,c3⟩;go_wp2_with fail;go_ret2;exact⟨rfl,hR3,hc2.tr c3⟩
  ·rw[if_neg hbl] at hS;rw[hS];have hbf:bad (c,n)=false∧low c=false:=by simpa using hbl
   obtain⟨hbf,hlow⟩:=hbf;have hnb:¬(c=65533∧n=1):=fun hh=>by rw[hh.1,hh.2] at hbf;simp[bad] at hbf
   clear hG hS hbd hbl hbf;by_cases h3:c=65533
   ·have hn1:((n:Int)==1)=false:=by simp;omega
    subst h3;clear hnb;go_enter Tryz.func209,Tryz.ntmps209;go_wp2_with fail;go_region_held3 (fun w'=>w'.cell? ⟨R,0,none⟩=some (.string (str l))∧w'.cell? ⟨R,1,none⟩=some (.int .i64 (p:Nat))) (first | exact⟨c0,c1⟩ | exact⟨m0,m1⟩)
     (first | (go_at_call 189;refine hda.mono ?_;rintro e w2 ⟨rfl,c2⟩;have m0:=c2.cell_some c0 (by simp);have m1:=c2.cell_some c1 (by simp)))
    have hR2:Rd w2 R l p e0:=Blk.chg0 (Blk.drew h) c2;have hc2:=((Chg.refl [R] w).drew).nil c2;go_wp2_with fail;refine (low_any 65533 (by omega) w2).mono ?_;rintro e w3 ⟨rfl,rfl⟩;rw[hlow];go_wp2_with fail;go_ret2;exact⟨rfl,hR2,hc2⟩
   ·have t1:((c:Int)==65533)=false:=by simp;omega
    clear hnb;go_enter Tryz.func209,Tryz.ntmps209;go_wp2_with fail;go_region_held3 (fun w'=>w'.cell? ⟨R,0,none⟩=some (.string (str l))∧w'.cell? ⟨R,1,none⟩=some (.int .i64 (p:Nat))) (first | exact⟨c0,c1⟩ | exact⟨m0,m1⟩)
     (first | (go_at_call 189;refine hda.mono ?_;rintro e w2 ⟨rfl,c2⟩;have m0:=c2.cell_some c0 (by simp);have m1:=c2.cell_some c1 (by simp)))
    have hR2:Rd w2 R l p e0:=Blk.chg0 (Blk.drew h) c2;have hc2:=((Chg.refl [R] w).drew).nil c2;go_wp2_with fail;refine (low_any c (by omega) w2).mono ?_;rintro e w3 ⟨rfl,rfl⟩;rw[hlow];go_wp2_with fail;go_ret2;exact⟨rfl,hR2,hc2⟩
end Go.Proofs.YtlbdklaggalgfaaGreatDoor
namespace Go.Aq.Wd
def plainE (r:List UInt8):Nat:=if (plainW r).2 then 0 else 4
end Go.Aq.Wd
namespace Go.Proofs.YtlbdklaggalgfaaGreatDoor
open Go.RowKit Go.Aq Go.Aq.Wd
def Off (R:Nat):Prop:=R≠1∧R≠2∧R≠0∧R≠5
theorem Tabs.off {w:World} (h:Tabs w) {R:Nat} (hR:w.heap.size≤R):Off R:=by
 obtain⟨⟨h1,h2⟩,⟨m,h3⟩,h4⟩:=h;have a1:=World.block_lt_of_cell? w _ (h1 0 (by decide));have a2:=World.block_lt_of_cell? w _ (h2 0 (by decide)).1;have a3:=World.block_lt_of_cell? w _ h3;have a4:=World.block_lt_of_cell? w _ h4;simp only at a1 a2 a3 a4;refine⟨?_,?_,?_,?_⟩ <;> omega
theorem Tabs.chgR {w w':World} {R:Nat} (h:Tabs w) (c:Chg [R] w w') (hR:Off R):Tabs w':=by
 obtain⟨⟨h1,h2⟩,⟨m,h3⟩,h4⟩:=h;obtain⟨r1,r2,r3,r4⟩:=hR;exact⟨⟨fun i hi=>c.cell_some (h1 i hi) (by simp;omega),fun i hi=>⟨c.cell_some (h2 i hi).1 (by simp;omega),c.cell_some (h2 i hi).2 (by simp;omega)⟩⟩,⟨m,c.cell_some h3 (by simp;omega)⟩,c.cell_some h4 (by simp;omega)⟩
theorem plain_any (w:World) (hT:Tabs w) (R:Nat) (hoff:Off R) (l:List UInt8) (p:Nat) (h:Rd w R l p 0) (hp:p≤l.length) (hl:l.length≤1000000000):
  Calls Tryz.prog 207 #[.pointer (some ⟨R,0,none⟩)] w fun x w'=>x=.returned (.string (str ((l.drop p).take (plainW (l.drop p)).1)))∧Rd w' R l (p+(plainW (l.drop p)).1) (plainE (l.drop p))∧Chg [R] w w':=by
 have hsz:=str_size l;have c1:w.cell? ⟨R,1,none⟩=some (.int .i64 (p:Nat)):=Blk.cell h 1;have hRlt:=Blk.lt h;go_enter Tryz.func207,Tryz.ntmps207;go_wp2_with fail;go_loopg [] (l.length - p) (fun k wr=>∃(q:Nat),q+k=l.length∧p≤q∧q≤l.length∧Rd wr R l q 0∧Chg [R] w wr∧plainW (l.drop p)=(q - p+(plainW (l.drop q)).1,(plainW (l.drop q)).2));case atStart=>exact⟨p,by omega,by omega,hp,h,Chg.refl _ _,by simp⟩
 case round=>
  obtain⟨q,hqk,hpq,hql,hR,hc,hpl⟩:=hrel;have c2:wr.cell? ⟨R,2,none⟩=some (.int .i64 (0:Nat)):=Blk.cell hR 2;have hTr:Tabs wr:=hT.chgR hc hoff;have hsg:=sign_any wr hTr R l q 0 hR hql hl;have hex:(str l).extract p q=str ((l.drop p).take (q - p)):=by rw[str_extract,List.drop_take]
  have hpi:(p:Int)≤(q:Int):=by omega
  have hqi:(q:Int)≤(l.length:Int):=by omega
  have hS:sgnR (l.drop q) 0=if l.drop q=[] then (65533,0,0) else if bad (dec (l.drop q)) || low (dec (l.drop q)).1 then (0,0,4) else ((dec (l.drop q)).1,(dec (l.drop q)).2,0):=rfl
  by_cases hr:l.drop q=[]
  ·rw[if_pos hr] at hS;rw[hS] at hsg;rw[hr,plainW_nil] at hpl;simp only[Nat.add_zero] at hpl;have hX:(l.drop p).take (plainW (l.drop p)).1=(l.drop p).take (q - p)∧p+(plainW (l.drop p)).1=q∧plainE (l.drop p)=0:=by unfold plainE;rw[hpl];exact⟨rfl,by simp only;omega,rfl⟩
   have HX:=zH hX;clear hX hpl hS hr hR;go_wp2_with fail;refine hsg.mono ?_;rintro e w2 ⟨rfl,hR2,c3⟩;have hc2:=hc.tr c3;have d0:w2.cell? ⟨R,0,none⟩=some (.string (str l)):=Blk.cell hR2 0;have d1:w2.cell? ⟨R,1,none⟩=some (.int .i64 (q:Nat)):=Blk.cell hR2 1;go_wp2_with fail;go_quiet (fail);have hRq:Rd (w2.drewN nq) R l q 0:=hR2;have hcq:=hc2.drewN nq;go_wp2_with fail;go_ret;exact⟨by rw[HX.out.1];rfl,by rw[HX.out.2.1,HX.out.2.2];exact hRq,hcq⟩
  ·rw[if_neg hr] at hS;have hd1:=dec_fst (l.drop q);have hdp:=dec_pos (l.drop q);have hle:=dec_le _ hr;rw[List.length_drop] at hle;have hpw:=plainW_step _ hr;cases hbl:(bad (dec (l.drop q)) || low (dec (l.drop q)).1) with
   | true=>
    rw[hbl,if_pos rfl] at hS hpw;rw[hS] at hsg;rw[hpw] at hpl;simp only[Nat.add_zero] at hpl;have hX:(l.drop p).take (plainW (l.drop p)).1=(l.drop p).take (q - p)∧p+(plainW (l.drop p)).1=q∧plainE (l.drop p)=4:=by unfold plainE;rw[hpl];exact⟨rfl,by simp only;omega,rfl⟩
    have HX:=zH hX;clear hX hpl hS hr hR hbl hpw hd1 hdp hle;go_wp2_with fail;refine hsg.mono ?_;rintro e w2 ⟨rfl,hR2,c3⟩;have hc2:=hc.tr c3;have d0:w2.cell? ⟨R,0,none⟩=some (.string (str l)):=Blk.cell hR2 0;have d1:w2.cell? ⟨R,1,none⟩=some (.int .i64 (q:Nat)):=Blk.cell hR2 1;go_wp2_with fail;go_quiet (fail);have hRq:Rd (w2.drewN nq) R l q 4:=hR2;have hcq:=hc2.drewN nq;go_wp2_with fail;go_ret;exact⟨by rw[HX.out.1];rfl,by rw[HX.out.2.1,HX.out.2.2];exact hRq,hcq⟩
   | false=>
    have hnx:((l.drop q).drop (dec (l.drop q)).2)=l.drop (q+(dec (l.drop q)).2):=by rw[List.drop_drop]
    rw[hbl,if_neg (by simp)] at hS hpw;rw[hS] at hsg;rw[hnx] at hpw;clear hnx hbl hS;generalize dec (l.drop q)=d at *;obtain⟨c,n⟩:=d;simp only at hd1 hdp hle hpw hsg;have t0:((n:Int)==0)=false:=by simp;omega
    by_cases h32:c=32
    ·rw[if_pos h32] at hpw;rw[hpw] at hpl;simp only[Nat.add_zero] at hpl;have hX:(l.drop p).take (plainW (l.drop p)).1=(l.drop p).take (q - p)∧p+(plainW (l.drop p)).1=q∧plainE (l.drop p)=0:=by unfold plainE;rw[hpl];exact⟨rfl,by simp only;omega,rfl⟩
     have HX:=zH hX;subst h32;clear hX hpl hr hR hpw hd1 hdp hle;go_wp2_with fail;refine hsg.mono ?_;rintro e w2 ⟨rfl,hR2,c3⟩;have hc2:=hc.tr c3;have d0:w2.cell? ⟨R,0,none⟩=some (.string (str l)):=Blk.cell hR2 0;have d1:w2.cell? ⟨R,1,none⟩=some (.int .i64 (q:Nat)):=Blk.cell hR2 1;go_wp2_with fail;go_quiet (fail);have hRq:Rd (w2.drewN nq) R l q 0:=hR2;have hcq:=hc2.drewN nq;go_wp2_with fail;go_ret;exact⟨by rw[HX.out.1];rfl,by rw[HX.out.2.1,HX.out.2.2];exact hRq,hcq⟩
    ·have t32:((c:Int)==32)=false:=by simp;omega
     rw[if_neg h32] at hpw;by_cases h34:c=34
     ·rw[if_pos h34] at hpw;rw[hpw] at hpl;simp only[Nat.add_zero] at hpl;have hX:(l.drop p).take (plainW (l.drop p)).1=(l.drop p).take (q - p)∧p+(plainW (l.drop p)).1=q∧plainE (l.drop p)=4:=by unfold plainE;rw[hpl];exact⟨rfl,by simp only;omega,rfl⟩
      have HX:=zH hX;subst h34;clear hX hpl hr hR hpw hd1 hdp hle t32 h32;go_wp2_with fail;refine hsg.mono ?_;rintro e w2 ⟨rfl,hR2,c3⟩;go_wp2_with fail;refine (fail_any w2 R l q 0 4 hR2).mono ?_;rintro e w3 ⟨rfl,hR3,c4⟩;have hc2:=(hc.tr c3).tr c4;have d0:w3.cell? ⟨R,0,none⟩=some (.string (str l)):=Blk.cell hR3 0;have d1:w3.cell? ⟨R,1,none⟩=some (.int .i64 (q:Nat)):=Blk.cell hR3 1;go_wp2_with fail;go_quiet (fail);have hRq:Rd (w3.drewN nq) R l q 4:=hR3;have hcq:=hc2.drewN nq;go_wp2_with fail;go_ret;exact⟨by rw[HX.out.1];rfl,by rw[HX.out.2.1,HX.out.2.2];exact hRq,hcq⟩
     ·have t34:((c:Int)==34)=false:=by simp;omega
      rw[if_neg h34] at hpw;rw[hpw] at hpl;simp only at hpl;have HPL:=zH hpl;have HQ:=zH hqk;clear hpl hr hR hpw hqk h32 h34;go_wp2_with fail;refine hsg.mono ?_;rintro e w2 ⟨rfl,hR2,c3⟩;have hc2:=hc.tr c3;have d1:w2.cell? ⟨R,1,none⟩=some (.int .i64 (q:Nat)):=Blk.cell hR2 1;have f1:=Blk.frozen hR2 1;have hR3:=Blk.set hR2 1 (.int .i64 ((q+n:Nat):Int));have hc3:=hc2.setCell (p:=⟨R,1,none⟩) (by simp) (.int .i64 ((q+n:Nat):Int));have e1:((q+n:Nat):Int)=(q:Int)+(n:Int):=by omega
      rw[e1] at hR3 hc3;have hni:(n:Int)≤4:=by omega
      go_wp2_with fail;go_roundg (gk - n);case measure=>have:=HQ.out;omega
      case rel=>
       refine⟨q+n,by have:=HQ.out;omega,by omega,by omega,?_,hc3,?_⟩;·unfold Rd;rw[e1];exact hR3
       ·rw[HPL.out];congr 1;omega
end Go.Proofs.YtlbdklaggalgfaaGreatDoor
namespace Go.Aq.Wd
theorem escs_ok:∀c∈escs,okR c:=by decide+kernel
theorem Rs_get (l:List Nat) (i:Nat) (h:i<l.length):(Rs l)[i]?=some (.int .i32 ((l[i]'h:Nat):Int)):=by simp[Rs,h]
def escR (l:List UInt8) (p:Nat):Nat×Nat×Nat:=match escO (l.drop p) with
 | some k=>(k,p+(writ k).length,0)
 | none=>if escShort (l.drop p) then (0,l.length,2) else (0,p,4)
end Go.Aq.Wd
namespace Go.Proofs.YtlbdklaggalgfaaGreatDoor
open Go.RowKit Go.Aq Go.Aq.Wd
theorem pre_any (s p:List UInt8) (w:World):Calls Tryz.prog 254 #[.string (str s),.string (str p)] w fun e w'=>e=.returned (.bool (p.isPrefixOf s))∧w'=w:=by
 have h:=Tryz.strings_HasPrefix (str s) (str p) w;exact h
theorem escape_any (w:World) (hT:Tabs w) (R:Nat) (hoff:Off R) (l:List UInt8) (p:Nat) (h:Rd w R l p 0) (hp:p≤l.length) (hl:l.length≤1000000000):
  Calls Tryz.prog 237 #[.pointer (some ⟨R,0,none⟩)] w fun x w'=>x=.returned (.int .i32 (escR l p).1)∧Rd w' R l (escR l p).2.1 (escR l p).2.2∧Chg [R] w w':=by
 have hsz:=str_size l;have he:=str_from l p;have hpi:(p:Int)≤(l.length:Int):=by omega
 have c0:w.cell? ⟨R,0,none⟩=some (.string (str l)):=Blk.cell h 0;have c1:w.cell? ⟨R,1,none⟩=some (.int .i64 (p:Nat)):=Blk.cell h 1;have hE:∀k,escO (l.drop p)=some k→escR l p=(k,p+(writ k).length,0):=fun k hk=>by unfold escR;rw[hk]
 have hN:escO (l.drop p)=none→escR l p=if escShort (l.drop p) then (0,l.length,2) else (0,p,4):=fun hk=>by unfold escR;rw[hk]
 have HE:=zH hE;have HN:=zH hN;clear hE hN;generalize l.drop p=r at *;go_enter Tryz.func237,Tryz.ntmps237;go_wp2_with fail;go_quiet (fail);have hR1:Rd (w.drewN nq) R l p 0:=h;have hc1:=(Chg.refl [] w).drewN nq;clear h c0 c1;generalize w.drewN nq=w1 at *;go_wp2_with fail;refine (escapes_any w1).mono ?_;rintro e w2 ⟨v,rfl,hf⟩;have hR2:Rd w2 R l p 0:=Blk.chg0 hR1 hf.chg;have hc2:=hc1.nil hf.chg;obtain⟨g,cap,hv,hcap,-,-⟩:=hf.own.pos (by omega);subst hv;have hown:=hf.own;clear hR1 hc1 hf;go_wp2_with fail;go_loopg [4,19] 67 (fun k vs vi wr=>∃(i:Nat) (b:Bool),vi=.int .i64 i∧vs=.bool b∧i+k=67∧b=((escs.take i).any fun c=>r.isPrefixOf (writ c))∧(∀c∈escs.take i,(writ c).isPrefixOf r=false)∧Chg [] w2 wr);case atStart=>exact⟨0,false,rfl,rfl,by omega,rfl,by simp,Chg.refl _ _⟩
 case round=>
  obtain⟨i,b,rfl,rfl,hik,hb,hno,hc⟩:=hrel;have hR3:Rd wr R l p 0:=Blk.chg0 hR2 hc;have hTr:Tabs wr:=hT.chg (hc2.nil hc);by_cases hi:i<67
  ·have hil:i<escs.length:=hi;have t1:decide ((i:Int)<67)=true:=by simp;omega
   have ii:(i:Int)<67:=by omega
   have x0:wr.cell? ⟨g,i,none⟩=some (.int .i32 ((escs[i]'hil:Nat):Int)):=by
    rw[(hown.chg hc (fun _ _=>by simp)).cellAt i (by omega),Rs_get _ _ hil]
   have hmem:=List.getElem_mem hil;have hokc:=escs_ok _ hmem;have hts:=List.take_succ_eq_append_getElem hil;have his:=escO_is r (escs[i]'hil) hmem;generalize escs[i]'hil=c at *;have hwa:=written_any c hokc wr hTr;have hwl:=writ_len c;have hws:=str_size (writ c);have HB:=zH hb;have HNO:=zH hno;have HTS:=zH hts;have HIK:=zH hik;have HIS:=zH his;clear hb hno hts hik his hmem;cases hpre:(writ c).isPrefixOf r with
   | true=>
    have hER:=HE.out c (HIS.out hpre);have HER:=zH hER;clear hER;go_wp2_with fail;refine hwa.mono ?_;rintro e w3 ⟨rfl,c3⟩;have hR4:Rd w3 R l p 0:=Blk.chg0 hR3 c3;have hc4:=(hc2.nil hc).nil c3;generalize writ c=W at *;go_wp2_with fail;refine (pre_any r W w3).mono ?_;rintro e w4 ⟨rfl,rfl⟩;rw[hpre];have d1:w4.cell? ⟨R,1,none⟩=some (.int .i64 (p:Nat)):=Blk.cell hR4 1;have f1:=Blk.frozen hR4 1;have hR5:=Blk.set hR4 1 (.int .i64 ((p+W.length:Nat):Int));have hc5:=(hc4.toS (S:=[R])).setCell (p:=⟨R,1,none⟩) (by simp) (.int .i64 ((p+W.length:Nat):Int));have e1:((p+W.length:Nat):Int)=(p:Int)+(W.length:Int):=by omega
    rw[e1] at hR5 hc5;have hwi:(W.length:Int)≤6:=by omega
    have hpb:(p:Int)≤1000000000:=by omega
    go_wp2_with fail;go_ret;refine⟨by rw[HER.out];rfl,?_,hc5⟩;rw[HER.out];unfold Rd;rw[e1];exact hR5
   | false=>
    have hno':∀x∈escs.take (i+1),(writ x).isPrefixOf r=false:=by
     rw[HTS.out];intro x hx;rcases List.mem_append.1 hx with hx | hx
     ·exact HNO.out x hx
     ·simp only[List.mem_singleton] at hx;rw[hx];exact hpre
    have hany:((escs.take (i+1)).any fun c=>r.isPrefixOf (writ c))=(b || r.isPrefixOf (writ c)):=by rw[HTS.out,List.any_append,←HB.out];simp
    have HNO2:=zH hno';have HANY:=zH hany;clear hno' hany HIS HNO HTS;generalize writ c=W at *;go_wp2_with fail;refine hwa.mono ?_;rintro e w3 ⟨rfl,c3⟩;have hc4:=hc.nil c3;go_wp2_with fail;refine (pre_any r W w3).mono ?_;rintro e w4 ⟨rfl,rfl⟩;rw[hpre];cases b with
    | true=>
     go_wp2_with fail;go_roundg (gk - 1);case measure=>have:=HIK.out;omega
     case rel=>exact⟨i+1,true,by go_num,rfl,by have:=HIK.out;omega,by rw[HANY.out];rfl,HNO2.out,hc4⟩
    | false=>
     go_wp2_with fail;refine (pre_any W r w4).mono ?_;rintro e w5 ⟨rfl,rfl⟩;go_wp2_with fail;go_roundg (gk - 1);case measure=>have:=HIK.out;omega
     case rel=>exact⟨i+1,_,by go_num,rfl,by have:=HIK.out;omega,by rw[HANY.out];rfl,HNO2.out,hc4⟩
  ·have h67:i=67:=by omega
   subst h67;have htk:escs.take 67=escs:=rfl;rw[htk] at hb hno;have hsh:b=escShort r:=hb;have hER:=HN.out ((escO_none r).2 hno);rw[←hsh] at hER;have HER:=zH hER;have hcw:=hc2.nil hc;have t1:decide ((67:Int)<67)=false:=rfl;clear hER hsh hb hno hik htk;cases b with
   | true=>
    have d0:wr.cell? ⟨R,0,none⟩=some (.string (str l)):=Blk.cell hR3 0;have d1:wr.cell? ⟨R,1,none⟩=some (.int .i64 (p:Nat)):=Blk.cell hR3 1;have f1:=Blk.frozen hR3 1;have hR5:Rd (wr.setCell ⟨R,1,none⟩ (.int .i64 (l.length:Nat))) R l l.length 0:=Blk.set hR3 1 (.int .i64 ((l.length:Nat):Int));have hc5:=(hcw.toS (S:=[R])).setCell (p:=⟨R,1,none⟩) (by simp) (.int .i64 ((l.length:Nat):Int));go_wp2_with fail;refine (fail_any _ R l l.length 0 2 hR5).mono ?_;rintro e w5 ⟨rfl,hR6,c6⟩;go_wp2_with fail;go_ret;exact⟨by rw[HER.out];rfl,by rw[HER.out];exact hR6,hc5.tr c6⟩
   | false=>
    go_wp2_with fail;refine (fail_any wr R l p 0 4 hR3).mono ?_;rintro e w5 ⟨rfl,hR6,c6⟩;go_wp2_with fail;go_ret;exact⟨by rw[HER.out];rfl,by rw[HER.out];exact hR6,(hcw.toS (S:=[R])).tr c6⟩
end Go.Proofs.YtlbdklaggalgfaaGreatDoor
