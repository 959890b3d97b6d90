/- Valid RefsA RefsB RefsC -/
import Derived.Test.YtlbdklaggalgfaaGreatDoorG37
import Derived.Sort.Walk0
import Derived.Laws.Cover1
import Derived.Laws.IdiomStrings
set_option linter.unusedVariables false
set_option maxHeartbeats 4000000
namespace Go.Aq
open Go.RowKit
def validB (s:List UInt8):Bool:=match unhexL s with | some bs=>bs.length==32 | none=>false
end Go.Aq
namespace Go.Proofs.YtlbdklaggalgfaaGreatDoor
open Go.RowKit Go.Aq
theorem valid_any (w:World) (s:List UInt8) (hs:s.length≤1000000):
  Calls Tryz.prog 83 #[.string (str s)] w fun e w'=>e=.returned (.bool (validB s))∧Chg [] w w':=by
 go_enter Tryz.func83,Tryz.ntmps83;go_wp2_with fail;refine (unhex_any w s hs).mono ?_;rintro e w1 (⟨bs,v',hu,rfl,hf⟩ | ⟨hu,rfl,hc⟩)
 ·obtain⟨ao,cap,rfl,hcap⟩:=hf.shape;have hv:validB s=(bs.length==32):=by unfold validB;rw[hu]
  have HV:=zH hv;have hc:=hf.chg;clear hu hv hf;generalize bs.length=k at *;go_wp2_with fail;go_ret;exact⟨ret_bool (by rw[HV.out,Bool.eq_iff_iff];simp;omega),hc⟩
 ·have hv:validB s=false:=by unfold validB;rw[hu]
  have HV:=zH hv;clear hu hv;go_wp2_with fail;go_ret;exact⟨ret_bool HV.out.symm,hc⟩
end Go.Proofs.YtlbdklaggalgfaaGreatDoor
namespace Go.Aq
open Go.RowKit
def cmpB (a b:List UInt8):Int:=if a<b then -1 else if b<a then 1 else 0
theorem cmpB_self (a:List UInt8):cmpB a a=0:=by unfold cmpB;rw[if_neg (List.lt_irrefl a),if_neg (List.lt_irrefl a)]
theorem cmpB_zero (a b:List UInt8):cmpB a b=0↔a=b:=by
 constructor
 ·intro h;unfold cmpB at h;split at h;·omega
  ·split at h;·omega
   ·rename_i h1 h2;exact List.le_antisymm (List.not_lt.1 h2) (List.not_lt.1 h1)
 ·rintro rfl;exact cmpB_self a
theorem cmpB_range (a b:List UInt8):cmpB a b= -1∨cmpB a b=0∨cmpB a b=1:=by
 unfold cmpB;split;·left;rfl
 ·split;·right;right;rfl
  ·right;left;rfl
structure RefD where
 tag:Bool
 name:List UInt8
 key:List UInt8
instance:Inhabited RefD:=⟨⟨false,[],[]⟩⟩
def rfCells (r:RefD):List Value:=[.bool r.tag,.string (str r.name),.string (str r.key)]
def rfV (r:RefD):Value:=.agg #[.bool r.tag,.string (str r.name),.string (str r.key)]
def Rfs (l:List RefD):List Value:=l.flatMap rfCells
theorem Rfs_at:∀(l:List RefD) (j:Nat) (h:j<l.length),(Rfs l)[j * 3]?=some (.bool (l[j]'h).tag)∧(Rfs l)[j * 3+1]?=some (.string (str (l[j]'h).name))∧(Rfs l)[j * 3+2]?=some (.string (str (l[j]'h).key))
 | [],j,h=>by simp at h
 | a::t,0,h=>by simp[Rfs,rfCells]
 | a::t,j+1,h=>by
  have ih:=Rfs_at t j (by simpa using h);have e:Rfs (a::t)=rfCells a++Rfs t:=rfl;have e3:(rfCells a).length=3:=rfl;simp only[e,List.getElem_cons_succ];rw[List.getElem?_append_right (by rw[e3];omega),List.getElem?_append_right (by rw[e3];omega),List.getElem?_append_right (by rw[e3];omega),e3];rw[show (j+1) * 3 - 3=j * 3 by omega,show (j+1) * 3+1 - 3=j * 3+1 by omega,show (j+1) * 3+2 - 3=j * 3+2 by omega];exact ih
def cmpR (a b:RefD):Int:=if a.tag=b.tag then cmpB a.name b.name else if a.tag then 1 else -1
end Go.Aq
namespace Go.Proofs.YtlbdklaggalgfaaGreatDoor
open Go.RowKit Go.Aq Go.Aq.Wd
theorem isNaN_any (a:List UInt8) (w:World):Calls Tryz.prog 188 #[.string (str a)] w fun e w'=>e=.returned (.bool false)∧w'=w:=by
 have e1:((str a).toList != (str a).toList)=false:=by simp
 go_enter Tryz.func188,Tryz.ntmps188;go_wp2_with fail;go_ret;exact⟨rfl,rfl⟩
theorem cmpS_any (a b:List UInt8) (w:World):Calls Tryz.prog 143 #[.string (str a),.string (str b)] w fun e w'=>e=.returned (.int .i64 (cmpB a b))∧w'=w:=by
 have hl:Op.bytesLess (str a).toList (str b).toList=decide (a<b):=by rw[Proofs.bytesLess_eq,str_toList,str_toList]
 have he:((str a).toList==(str b).toList)=decide (a=b):=str_eq a b;have n1:=isNaN_any a;have n2:=isNaN_any b;have hz:=cmpB_zero a b;have hc:cmpB a b=if a<b then -1 else if b<a then 1 else 0:=rfl
 by_cases h1:a<b
 ·rw[if_pos h1] at hc;rw[decide_eq_true h1] at hl;rw[hc];clear h1 he hz hc;go_enter Tryz.func143,Tryz.ntmps143;go_wp2_with fail;refine (n1 _).mono ?_;rintro e w1 ⟨rfl,rfl⟩;go_wp2_with fail;refine (n2 _).mono ?_;rintro e w2 ⟨rfl,rfl⟩;go_wp2_with fail;go_ret;exact⟨rfl,rfl⟩
 ·rw[if_neg h1] at hc;rw[decide_eq_false h1] at hl;by_cases h2:a=b
  ·rw[hz.2 h2];rw[decide_eq_true h2] at he;clear h1 h2 hz hc;go_enter Tryz.func143,Tryz.ntmps143;go_wp2_with fail;refine (n1 _).mono ?_;rintro e w1 ⟨rfl,rfl⟩;go_wp2_with fail;refine (n2 _).mono ?_;rintro e w2 ⟨rfl,rfl⟩;go_wp2_with fail;go_ret;exact⟨rfl,rfl⟩
  ·rw[decide_eq_false h2] at he;have h3:b<a:=by
    by_cases h3:b<a;·exact h3
    ·exact absurd (List.le_antisymm (List.not_lt.1 h3) (List.not_lt.1 h1)) h2
   rw[if_pos h3] at hc;rw[hc];clear h1 h2 h3 hz hc;go_enter Tryz.func143,Tryz.ntmps143;go_wp2_with fail;refine (n1 _).mono ?_;rintro e w1 ⟨rfl,rfl⟩;go_wp2_with fail;refine (n2 _).mono ?_;rintro e w2 ⟨rfl,rfl⟩;go_wp2_with fail;go_ret;exact⟨rfl,rfl⟩
theorem compare_any (a b:RefD) (w:World):Calls Tryz.prog 84 #[rfV a,rfV b] w fun e w'=>e=.returned (.int .i64 (cmpR a b))∧Chg [] w w':=by
 obtain⟨ta,na,ka⟩:=a;obtain⟨tb,nb,kb⟩:=b;unfold rfV;have hc:=cmpS_any na nb;have hz:=cmpB_range na nb;have hR:cmpR ⟨ta,na,ka⟩ ⟨tb,nb,kb⟩=if ta=tb then cmpB na nb else if ta then 1 else -1:=rfl
 have HR:=zH hR;clear hR;generalize cmpB na nb=c at *;have hw:=fun (w:World)=>((Chg.refl [] w).alloc (.cells #[.bool ta,.string (str na),.string (str ka)] 42)).alloc (.cells #[.bool tb,.string (str nb),.string (str kb)] 42)
 cases ta <;> cases tb
 ·go_enter Tryz.func84,Tryz.ntmps84;go_wp2_with fail;refine (hc _).mono ?_;rintro e w1 ⟨rfl,rfl⟩;go_wp2_with fail;go_ret;exact⟨by rw[HR.out];rfl,hw _⟩
 ·go_enter Tryz.func84,Tryz.ntmps84;go_wp2_with fail;go_ret;exact⟨by rw[HR.out];rfl,hw _⟩
 ·go_enter Tryz.func84,Tryz.ntmps84;go_wp2_with fail;go_ret;exact⟨by rw[HR.out];rfl,hw _⟩
 ·go_enter Tryz.func84,Tryz.ntmps84;go_wp2_with fail;refine (hc _).mono ?_;rintro e w1 ⟨rfl,rfl⟩;go_wp2_with fail;go_ret;exact⟨by rw[HR.out];rfl,hw _⟩
theorem kind_any (a:RefD) (w:World):Calls Tryz.prog 29 #[rfV a] w fun e w'=>e=.returned (.string (str (if a.tag then [116,97,103] else [98,114,97,110,99,104])))∧Chg [] w w':=by
 obtain⟨ta,na,ka⟩:=a;unfold rfV;have hw:=fun (w:World)=>(Chg.refl [] w).alloc (.cells #[.bool ta,.string (str na),.string (str ka)] 42)
 cases ta;all_goals
  go_enter Tryz.func29,Tryz.ntmps29;go_wp2_with fail;go_ret;exact⟨rfl,hw _⟩
def fewN:Nat→List RefD→Nat
 | n,[]=>n
 | n,r::t=>fewN (min (n+min r.name.length 20001+min r.key.length 20001) 80000) t
theorem Rfs_cells {w:World} {g off n:Nat} {l:List RefD} (hl:l.length=n) (hc:∀j,j<n * 3→w.cell? ⟨g,off+j,none⟩=(Rfs l)[j]?) (j:Nat) (h:j<l.length):
  w.cell? ⟨g,off+j * 3,none⟩=some (.bool (l[j]'h).tag)∧w.cell? ⟨g,off+j * 3+1,none⟩=some (.string (str (l[j]'h).name))∧w.cell? ⟨g,off+j * 3+2,none⟩=some (.string (str (l[j]'h).key)):=by
 obtain⟨h0,h1,h2⟩:=Rfs_at l j h;have e0:=hc (j * 3) (by omega);have e1:=hc (j * 3+1) (by omega);have e2:=hc (j * 3+2) (by omega);rw[h0] at e0;rw[h1] at e1;rw[h2] at e2;exact⟨e0,e1,e2⟩
end Go.Proofs.YtlbdklaggalgfaaGreatDoor
namespace Go.Aq
open Go.RowKit Go.Aq.Wd
def mayAt (l:List RefD) (j:Nat):Bool:=nameL (l.getD j default).name&&validB (l.getD j default).key&&(j==0 || decide (cmpR (l.getD (j - 1) default) (l.getD j default)<0))
def mayL (l:List RefD):Bool:=(List.range l.length).all (mayAt l)&&decide (l.length≤100)
theorem mayL_bad (l:List RefD) (j:Nat) (hj:j<l.length) (h:mayAt l j=false):mayL l=false:=by
 unfold mayL;rw[List.all_eq_false.2 ⟨j,List.mem_range.2 hj,by rw[h];decide⟩];rfl
theorem range_all_succ (p:Nat→Bool) (i:Nat):(List.range (i+1)).all p=((List.range i).all p&&p i):=by rw[List.range_succ,List.all_append];simp
theorem mayL_at {l:List RefD} (h:mayL l=true) (j:Nat) (hj:j<l.length):mayAt l j=true:=by
 simp only[mayL,Bool.and_eq_true,List.all_eq_true] at h;exact h.1 j (List.mem_range.2 hj)
theorem mayL_len {l:List RefD} (h:mayL l=true):l.length≤100:=by
 simp only[mayL,Bool.and_eq_true,decide_eq_true_eq] at h;exact h.2
end Go.Aq
namespace Go.Proofs.YtlbdklaggalgfaaGreatDoor
open Go.RowKit Go.Aq Go.Aq.Wd
set_option maxRecDepth 100000 in
theorem may_any (w:World) (hT:Tabs w) (v:Value) (l:List RefD) (hv:Sees w 3 v l.length (Rfs l)) (hl:l.length≤1000000) (hx:∀r∈l,r.name.length≤1000000∧r.key.length≤1000000):
  Calls Tryz.prog 26 #[v] w fun e w'=>e=.returned (.bool (mayL l))∧Chg [] w w':=by
 obtain⟨nl,HL⟩:∃n,Hid (l.length=n):=⟨_,rfl⟩;rw[HL.out] at hv hl;obtain⟨ao,cap,rfl,hcap,hno⟩:=hv.shape;have HNO:=zH hno;clear hno;go_enter Tryz.func26,Tryz.ntmps26;go_wp2_with fail;go_loopg [7] nl (fun k vi wr=>∃(i:Nat),vi=.int .i64 i∧i+k=nl∧i≤nl∧Hid ((List.range i).all (mayAt l)=true)∧Chg [] w wr);case atStart=>exact⟨0,rfl,by omega,by omega,rfl,Chg.refl _ _⟩
 case round=>
  obtain⟨i,rfl,hik,hin,HM,hc⟩:=hrel;by_cases hi:i<nl
  ·have t1:decide ((i:Int)<(nl:Int))=true:=by simp;omega
   have t1':decide (i<nl)=true:=by simp;omega
   have hil:i<l.length:=by rw[HL.out];exact hi
   obtain⟨g,off,cap',hs,-,hgl,hcell⟩:=hv.cells (by omega);simp only[Value.slice.injEq,true_and] at hs;obtain⟨rfl,rfl⟩:=hs;have HC:Hid (∀j (h:j<l.length),w.cell? ⟨g,off+j * 3,none⟩=some (.bool (l[j]'h).tag)∧w.cell? ⟨g,off+j * 3+1,none⟩=some (.string (str (l[j]'h).name))∧w.cell? ⟨g,off+j * 3+2,none⟩=some (.string (str (l[j]'h).key))):=fun j h=>Rfs_cells HL.out hcell j h
   obtain⟨x0,x1,x2⟩:=HC.out i hil;have y0:=hc.cell_some x0 (by simp);have y1:=hc.cell_some x1 (by simp);have y2:=hc.cell_some x2 (by simp);have hb:=hx _ (List.getElem_mem hil);have hTr:=hT.chg hc;have hgd:l.getD i default=l[i]:=by simp[List.getD,hil]
   have hM:mayAt l i=(nameL l[i].name&&validB l[i].key&&(i==0 || decide (cmpR (l.getD (i - 1) default) l[i]<0))):=by unfold mayAt;rw[hgd]
   have hib:(i:Int)≤1000000:=by omega
   obtain⟨K,hK⟩:∃K,wr.heap.size=K:=⟨_,rfl⟩;clear x0 x1 x2 hcell hgd;have HMA:=zH hM;clear hM;generalize hr:l[i]=r at *;have HR:=zH hr;clear hr;obtain⟨tr,nm,ky⟩:=r;simp only at y0 y1 y2 hb;have hbx:Blk (wr.alloc (.cells #[.bool tr,.string (str nm),.string (str ky)] 42)) K #[.bool tr,.string (str nm),.string (str ky)] 42:=Blk.new_at wr _ _ hK;have hcx:Chg [] wr (wr.alloc (.cells #[.bool tr,.string (str nm),.string (str ky)] 42)):=(Chg.refl _ _).alloc _;go_upto_region 4 with (fail);generalize wr.alloc (.cells #[.bool tr,.string (str nm),.string (str ky)] 42)=wb at *;have cw:=hc.nil hcx;have f0:wb.cell? ⟨K,0,none⟩=some (.bool tr):=Blk.cell hbx 0;have f1:wb.cell? ⟨K,1,none⟩=some (.string (str nm)):=Blk.cell hbx 1;have f2:wb.cell? ⟨K,2,none⟩=some (.string (str ky)):=Blk.cell hbx 2;obtain⟨X,hne,F,x0,hF0,hF,hX⟩:=fam0 wb;have z0:=fun x=>(hF x).cell_some f0 (by simp)
   have z1:=fun x=>(hF x).cell_some f1 (by simp)
   have z2:=fun x=>(hF x).cell_some f2 (by simp)
   have HNa:=fun x=>name_any nm (F x) (hT.chg (cw.nil (hF x))) (by omega)
   have HVa:=fun x=>valid_any (F x) ky (by omega)
   have HC2:=zA hc cw;clear hbx hcx y0 y1 y2 hb f0 f1 f2;cases hN:nameL nm with
   | false=>
    have HF:Hid (mayL l=false):=mayL_bad l i hil (by rw[HMA.out];simp[hN]);rw[hN] at HNa;clear hN HVa HMA hc cw;refine wp_fam F (by kernel_rfl) (by kernel_rfl) x0 hF0 ?_;(repeat (go_big_quiet_step (exact fam_call hF hX (HNa _))));refine wpQuiet_nil ?_;rintro w' ⟨x1,rfl⟩;go_wp2_with fail;go_ret;exact⟨by rw[HF.out];rfl,HC2.out.2.nil (hF x1)⟩
   | true=>
    rw[hN] at HNa;cases hV:validB ky with
    | false=>
     have HF:Hid (mayL l=false):=mayL_bad l i hil (by rw[HMA.out];simp[hN,hV]);rw[hV] at HVa;clear hN hV HMA hc cw;refine wp_fam F (by kernel_rfl) (by kernel_rfl) x0 hF0 ?_;(repeat (go_big_quiet_step (first | exact fam_call hF hX (HNa _) | exact fam_call hF hX (HVa _))));refine wpQuiet_nil ?_;rintro w' ⟨x1,rfl⟩;go_wp2_with fail;go_ret;exact⟨by rw[HF.out];rfl,HC2.out.2.nil (hF x1)⟩
    | true=>
     rw[hV] at HVa;by_cases h0:i=0
     ·subst h0;have HG:Hid ((List.range 1).all (mayAt l)=true):=by
       show _=_;rw[range_all_succ,HM.out,HMA.out];simp[hN,hV]
      clear hN hV HMA hc cw;refine wp_fam F (by kernel_rfl) (by kernel_rfl) x0 hF0 ?_;(repeat (go_big_quiet_step (first | exact fam_call hF hX (HNa _) | exact fam_call hF hX (HVa _))));refine wpQuiet_nil ?_;rintro w' ⟨x1,rfl⟩;go_wp2_with fail;go_roundg (gk - 1);case measure=>omega
      case rel=>exact⟨1,rfl,by omega,by omega,HG,HC2.out.2.nil (hF x1)⟩
     ·obtain⟨m,rfl⟩:∃m,i=m+1:=⟨i - 1,by omega⟩;have hml:m<l.length:=by omega
      obtain⟨p0,p1,p2⟩:=HC.out m hml;have q0:=fun x=>(hF x).cell_some (cw.cell_some p0 (by simp)) (by simp)
      have q1:=fun x=>(hF x).cell_some (cw.cell_some p1 (by simp)) (by simp)
      have q2:=fun x=>(hF x).cell_some (cw.cell_some p2 (by simp)) (by simp)
      have hgd:l.getD (m+1 - 1) default=l[m]:=by simp[List.getD,hml]
      have hM:=HMA.out;rw[hgd,hN,hV] at hM;have HCa:=fun x=>compare_any l[m] ⟨tr,nm,ky⟩ (F x)
      have hmb:(m:Int)≤1000000:=by omega
      have hmn:m<nl:=by omega
      have HM2:=zH hM;clear hM hgd p0 p1 p2 h0 hN hV HMA hc cw;generalize l[m]=rp at *;generalize hcm:cmpR rp ⟨tr,nm,ky⟩=c at *;obtain⟨tp,np,kp⟩:=rp;simp only at q0 q1 q2;unfold rfV at HCa;simp only at HCa;clear hcm;have HP:=zB hik hin hil;by_cases hc0:0≤c
      ·have t2:decide (0≤c)=true:=by simpa using hc0
       have HF:Hid (mayL l=false):=mayL_bad l (m+1) hil (by rw[HM2.out];simp;omega);clear HR hik hin hil HM2 hc0;refine wp_fam F (by kernel_rfl) (by kernel_rfl) x0 hF0 ?_;(repeat (go_big_quiet_step (first | exact fam_call hF hX (HNa _) | exact fam_call hF hX (HVa _) | exact fam_call hF hX (HCa _))));refine wpQuiet_nil ?_;rintro w' ⟨x1,rfl⟩;go_wp2_with fail;go_ret;exact⟨by rw[HF.out];rfl,HC2.out.2.nil (hF x1)⟩
      ·have t2:decide (0≤c)=false:=by simpa using hc0
       have HG:Hid ((List.range (m+1+1)).all (mayAt l)=true):=by
        show _=_;rw[range_all_succ,HM.out,HM2.out];simp;omega
       clear HR hik hin hil HM2 hc0;refine wp_fam F (by kernel_rfl) (by kernel_rfl) x0 hF0 ?_;(repeat (go_big_quiet_step (first | exact fam_call hF hX (HNa _) | exact fam_call hF hX (HVa _) | exact fam_call hF hX (HCa _))));refine wpQuiet_nil ?_;rintro w' ⟨x1,rfl⟩;go_wp2_with fail;go_roundg (gk - 1);case measure=>have:=HP.out;omega
       case rel=>exact⟨m+1+1,by go_num,by have:=HP.out;omega,by omega,HG,HC2.out.2.nil (hF x1)⟩
  ·have t1:decide ((i:Int)<(nl:Int))=false:=by simp;omega
   have t1':decide (i<nl)=false:=by simp;omega
   obtain rfl:i=nl:=by omega
   have HF:Hid (mayL l=decide (i≤100)):=by
    show mayL l=_;unfold mayL;rw[HL.out,HM.out];rfl
   have e1:decide ((i:Int)≤100)=decide (i≤100):=by simp;omega
   clear hi hik;generalize decide (i≤100)=b at *;go_wp2_with fail;go_ret;exact⟨by rw[HF.out];rfl,hc⟩
end Go.Proofs.YtlbdklaggalgfaaGreatDoor
namespace Go.Aq
open Go.RowKit Go.Aq.Wd
def kindL (t:Bool):List UInt8:=if t then [116,97,103] else [98,114,97,110,99,104]
def lineR (r:RefD):List UInt8:=kindL r.tag++[32]++(quoteL r.name).1++[32]++r.key++[10]
def encodeL (l:List RefD):List UInt8×Nat:=if mayL l then (l.flatMap lineR,0) else ([],4)
theorem quoteL_len (l:List UInt8):(quoteL l).1.length≤6 * l.length+2:=by
 unfold quoteL;cases hs:sigs l with
 | none=>simp
 | some rs=>
  obtain⟨he,-⟩:=sigs_enc hs;have h1:=writs_len rs;have h2:=encL_len rs;rw[←he] at h2;simp only[quoteR,List.length_append,List.length_cons,List.length_nil];omega
theorem quoteL_name {l:List UInt8} (h:nameL l=true):(quoteL l).2=0:=by
 unfold nameL at h;unfold quoteL;cases hs:sigs l with
 | none=>rw[hs] at h;cases h
 | some rs=>rfl
theorem blk_others {e e':TypeId} {b:Nat} {w w':World} (h:Lib.OthersKept e (some b) w w') {k:Nat} {cs:Array Value} (hb:Blk w k cs e') (hk:k≠b) (hne:e'≠e):Blk w' k cs e':=
 h k _ hb (by simpa using hk) fun c fz hh=>hne (by cases hh;rfl)
theorem str_cat (a b:List UInt8):str a++str b=str (a++b):=by
 apply ByteArray.ext;show (str a++str b).data=_;simp[str]
theorem str_catL (a b:List UInt8):str a++⟨b.toArray⟩=str (a++b):=str_cat a b
theorem run_cat {P:Program} {a b c:ByteArray} (h:a++b=c) (hb:a.size+b.size≤9223372036854775807) (w:World):(Op.stringOp .add a b).run P w=.ok (.string c) w:=by rw[run_string_add_sum w a b hb,h]
theorem lineR_len (r:RefD) (h:r.name.length≤1000000∧r.key.length≤1000000):(lineR r).length≤8000000:=by
 have h1:=quoteL_len r.name;unfold lineR;simp only[List.length_append,List.length_cons,List.length_nil];have:(kindL r.tag).length≤6:=by unfold kindL;split <;> simp
 omega
theorem lines_len (l:List RefD) (h:∀r∈l,r.name.length≤1000000∧r.key.length≤1000000):(l.flatMap lineR).length≤8000000 * l.length:=by
 induction l with
 | nil=>simp
 | cons a t ih=>
  have:=lineR_len a (h a (by simp));have:=ih fun r hr=>h r (by simp[hr])
  rw[List.flatMap_cons,List.length_append,List.length_cons];omega
end Go.Aq
namespace Go.Proofs.YtlbdklaggalgfaaGreatDoor
open Go.RowKit Go.Aq Go.Aq.Wd
theorem conv_bytes (l:List UInt8) (w:World):∃v w',(convert 9 38 (.string (str l))).run Tryz.prog w=.ok v w'∧Sees w' 1 v l.length (Bs l)∧(∀k∈eyes v,w.heap.size≤k)∧Chg [] w w':=by
 have hr:=run_bytes_of_string w 9 38 5 (str l) Tryz.underlying9 Tryz.underlying38 Tryz.underlying5;generalize hcap:grownCap w (str l).size 0 5=cap at hr;have hge:(str l).size≤cap:=by rw[←hcap];exact grownCap_ge w _ _ _
 rw[str_size] at hr hge;have hb:(w.drew.alloc (.cells (bytesRow (str l) cap) 5 ((bytesRow (str l) cap).size,(bytesRow (str l) cap).size+1))).heap[w.heap.size]?=some (.cells (bytesRow (str l) cap) 5 ((bytesRow (str l) cap).size,(bytesRow (str l) cap).size+1)):=heap_alloc_new w.drew _;refine⟨_,_,hr,⟨by rw[Bs_length,Nat.mul_one],_,_,rfl,hge,by simp,?_⟩,?_,((Chg.refl [] w).drew).alloc _⟩
 ·intro ad had j u hu;cases had;have hj:j<l.length:=by have:=(List.getElem?_eq_some_iff.1 hu).1;rwa [Bs_length] at this
  rw[Addr.add_lit,Nat.zero_add];simp only[World.cell?,hb];rw[←hu];simp[bytesRow,str,Bs,Bc,Array.getElem?_append,hj]
 ·intro k hk;simp only[eyes] at hk;split at hk;·cases hk
  ·simp at hk;omega
theorem encode_any (w:World) (hT:Tabs w) (v:Value) (l:List RefD) (hv:Sees w 3 v l.length (Rfs l)) (hl:l.length≤1000000) (hx:∀r∈l,r.name.length≤1000000∧r.key.length≤1000000):
  Calls Tryz.prog 12 #[v] w fun e w'=>∃v',e=.returned (.tuple #[v',.int .i64 (encodeL l).2])∧Sees w' 1 v' (encodeL l).1.length (Bs (encodeL l).1)∧(∀k∈eyes v',w.heap.size≤k)∧Chg [] w w':=by
 have hma:=may_any w hT v l hv hl hx;cases hM:mayL l with
 | false=>
  have hE:encodeL l=([],4):=by unfold encodeL;rw[hM];rfl
  rw[hE];rw[hM] at hma;clear hE hM;obtain⟨ao,cap,rfl,hcap,hno⟩:=hv.shape;clear hno;go_enter Tryz.func12,Tryz.ntmps12;go_wp2_with fail;refine hma.mono ?_;rintro e w1 ⟨rfl,c1⟩;go_wp2_with fail;go_ret2;exact⟨_,rfl,Sees.nil _ _,by simp[eyes],c1⟩
 | true=>
  have hE:encodeL l=(l.flatMap lineR,0):=by unfold encodeL;rw[hM];rfl
  rw[hE];rw[hM] at hma;have HMay:=zH hM;clear hE hM;obtain⟨nl,HL⟩:∃n,Hid (l.length=n):=⟨_,rfl⟩;rw[HL.out] at hv hl;obtain⟨ao,cap,rfl,hcap,hno⟩:=hv.shape;have HNO:=zH hno;clear hno;go_enter Tryz.func12,Tryz.ntmps12;go_wp2_with fail;refine hma.mono ?_;rintro e w1 ⟨rfl,c1⟩;clear hma;have hI0:Lib.IsBuilder 68 5 w1.heap.size w1.heap.size (Bs []) (w1.alloc (.cells #[.pointer none,.slice none 0 0] 68)):=Lib.fresh_isBuilder 68 5 w1;have hB0:Below w1.heap.size w1 (w1.alloc (.cells #[.pointer none,.slice none 0 0] 68)):=(Below.refl _ w1).alloc (Nat.le_refl _) _;obtain⟨B,hB⟩:∃B,w1.heap.size=B:=⟨_,rfl⟩;rw[hB] at hI0 hB0;have hz:B<(w1.alloc (.cells #[.pointer none,.slice none 0 0] 68)).heap.size:=by simp;omega
  have hv1:=hv.chg0 c1;have hT1:=hT.chg c1;have HV:=zA hv hv1;clear hv hv1;go_wp2_with fail;generalize w1.alloc _=wz at *;go_loopg [14] nl (fun k vi wr=>∃(i:Nat),vi=.int .i64 i∧i+k=nl∧i≤nl∧Below B w1 wr∧B<wr.heap.size∧Lib.IsBuilder 68 5 B B (Bs ((l.take i).flatMap lineR)) wr);case atStart=>exact⟨0,rfl,by omega,by omega,hB0,hz,hI0⟩
  case round=>
   obtain⟨i,rfl,hik,hin,hbw,hBs,hI⟩:=hrel;have hib:(i:Int)≤1000000:=by omega
   have hlen:l.length≤100:=mayL_len HMay.out;by_cases hi:i<nl
   ·have t1:decide ((i:Int)<(nl:Int))=true:=by simp;omega
    have t1':decide (i<nl)=true:=by simp;omega
    have hil:i<l.length:=by rw[HL.out];exact hi
    obtain⟨g,off,cap',hs,-,hgl,hcell⟩:=HV.out.2.cells (by omega);simp only[Value.slice.injEq,true_and] at hs;obtain⟨rfl,rfl⟩:=hs;have hcr:Chg [] w1 wr:=Chg.of_below (by rw[hB];exact hbw);obtain⟨x0,x1,x2⟩:=Rfs_cells HL.out hcell i hil;have y0:=hcr.cell_some x0 (by simp);have y1:=hcr.cell_some x1 (by simp);have y2:=hcr.cell_some x2 (by simp);have hb:=hx _ (List.getElem_mem hil);have hlr:=lineR_len _ hb;have hts:=List.take_succ_eq_append_getElem hil;have hnm:nameL l[i].name=true:=by
     have h:=mayL_at HMay.out i hil;unfold mayAt at h;rw[show l.getD i default=l[i] by simp[List.getD,hil]] at h;simp only[Bool.and_eq_true] at h;exact h.1.1
    have hq2:=quoteL_name hnm;have htl:=lines_len (l.take i) fun r hr=>hx r (List.mem_of_mem_take hr)
    rw[List.length_take] at htl;have hTr:=hT1.chg hcr;have hqa:=fun w' (h:Chg [] wr w')=>quote_any l[i].name w' (hTr.chg h) (by omega)
    rw[hq2] at hqa;have hka:=fun w'=>kind_any l[i] w'
    have hlR:lineR l[i]=kindL l[i].tag++[32]++(quoteL l[i].name).1++[32]++l[i].key++[10]:=rfl;obtain⟨K,hK⟩:∃K,wr.heap.size=K:=⟨_,rfl⟩;clear x0 x1 x2 hcell hnm hq2;have hws:=fun w4 (h4:Lib.IsBuilder 68 5 B B (Bs ((l.take i).flatMap lineR)) w4)=>wString B B ((l.take i).flatMap lineR) (lineR l[i]) w4 h4 (by omega)
    generalize l[i]=r at *;obtain⟨tr,nm,ky⟩:=r;simp only at y0 y1 y2 hb hqa hlR;unfold rfV at hka;simp only at hka;have hql:=quoteL_len nm;have hkl:(kindL tr).length≤6:=by unfold kindL;split <;> simp
    generalize (quoteL nm).1=q at *;change ∀w',Calls _ _ _ w' fun e w'_1=>e=.returned (.string (str (kindL tr)))∧Chg [] w' w'_1 at hka
    rw[hlR] at hws hlr;generalize kindL tr=kd at *;have z1:(str kd).size≤6:=by rw[str_size];omega
    have z2:(str q).size≤7000000:=by rw[str_size];omega
    have z3:(str ky).size≤1000000:=by rw[str_size];omega
    have z4:(str (kd++[32])).size≤7:=by rw[str_size,List.length_append];simp;omega
    have z5:(str (kd++[32]++q)).size≤8000000:=by rw[str_size];simp;omega
    have z6:(str (kd++[32]++q++[32])).size≤8000000:=by rw[str_size];simp;omega
    have z7:(str (kd++[32]++q++[32]++ky)).size≤9000000:=by rw[str_size];simp;omega
    clear hql hkl;have s1:str kd++(⟨#[32]⟩:ByteArray)=str (kd++[32]):=str_catL _ _;have s2:=str_cat (kd++[32]) q;have s3:str (kd++[32]++q)++(⟨#[32]⟩:ByteArray)=str (kd++[32]++q++[32]):=str_catL _ _;have s4:=str_cat (kd++[32]++q++[32]) ky;have s5:str (kd++[32]++q++[32]++ky)++(⟨#[10]⟩:ByteArray)=str (kd++[32]++q++[32]++ky++[10]):=str_catL _ _;generalize kd++[32]=a1 at *;generalize a1++q=a2 at *;generalize a2++[32]=a3 at *;generalize a3++ky=a4 at *;generalize a4++[10]=a5 at *;have r1:=fun w=>run_cat (P:=Tryz.prog) s1 (by have:(⟨#[32]⟩:ByteArray).size=1:=rfl;omega) w
    have r2:=fun w=>run_cat (P:=Tryz.prog) s2 (by omega) w
    have r3:=fun w=>run_cat (P:=Tryz.prog) s3 (by have:(⟨#[32]⟩:ByteArray).size=1:=rfl;omega) w
    have r4:=fun w=>run_cat (P:=Tryz.prog) s4 (by omega) w
    have r5:=fun w=>run_cat (P:=Tryz.prog) s5 (by have:(⟨#[10]⟩:ByteArray).size=1:=rfl;omega) w
    clear s1 s2 s3 s4 s5 z1 z2 z3 z4 z5 z6 z7;have hbx:Blk (wr.alloc (.cells #[.bool tr,.string (str nm),.string (str ky)] 42)) K #[.bool tr,.string (str nm),.string (str ky)] 42:=Blk.new_at wr _ _ hK;have hcx:Chg [] wr (wr.alloc (.cells #[.bool tr,.string (str nm),.string (str ky)] 42)):=(Chg.refl _ _).alloc _;go_upto_region 7 with (fail);generalize wr.alloc (.cells #[.bool tr,.string (str nm),.string (str ky)] 42)=wb at *;have f0:wb.cell? ⟨K,0,none⟩=some (.bool tr):=Blk.cell hbx 0;have f1:wb.cell? ⟨K,1,none⟩=some (.string (str nm)):=Blk.cell hbx 1;have f2:wb.cell? ⟨K,2,none⟩=some (.string (str ky)):=Blk.cell hbx 2;have hqb:=hqa wb hcx;have HB:=zC hB hlen htl hlr;have HR:=zA hts hlR;clear hqa y0 y1 y2 hb hlen htl hlr hts hlR hB hcr hTr;go_wp2_with fail;refine hqb.mono ?_;rintro e w2 ⟨rfl,c2⟩;have hb2:=hbx.chg0 c2;have e0:=c2.cell_some f0 (by simp);have e1:=c2.cell_some f1 (by simp);have e2:=c2.cell_some f2 (by simp);clear hqb f0 f1 f2 hbx;go_wp2_with fail;have hI2:=builder_chg hI (hcx.trans c2 (by simp));have hbw2:Below B w1 w2:=hbw.trans ((hcx.trans c2 (by simp)).below (Nat.le_of_lt hBs) (by simp));have hBs2:B≤w2.heap.size:=Nat.le_trans (Nat.le_of_lt hBs) (hcx.trans c2 (by simp)).size;have hKB:B<K:=by omega
    clear hI hbw hBs hcx c2 hK;go_region_held3 (fun w'=>w'.cell? ⟨K,0,none⟩=some (.bool tr)∧w'.cell? ⟨K,1,none⟩=some (.string (str nm))∧w'.cell? ⟨K,2,none⟩=some (.string (str ky))) (first | exact⟨e0,e1,e2⟩ | exact⟨g0,g1,g2⟩ | exact⟨h0,h1,h2⟩)
     (first
      | (go_at_call 29;refine (hka _).mono ?_;rintro e w3 ⟨rfl,c3⟩;have g3:=((Chg.refl [] w2).drew).nil c3;have gb:=hb2.chg0 g3;have g0:=Blk.cell gb 0;have g1:=Blk.cell gb 1;have g2:=Blk.cell gb 2)
      | (go_at_call 28;refine (hws _ (builder_chg hI2 g3) (Nat.le_trans hBs2 g3.size)).mono ?_;rintro e w4 ⟨rfl,hI4,hb4,k4⟩;have hb:=blk_others k4 gb (by omega) (by decide);have h0:=Blk.cell hb 0;have h1:=Blk.cell hb 1;have h2:=Blk.cell hb 2))
    have hbw4:Below B w1 w4:=(hbw2.trans (g3.below hBs2 (by simp))).trans hb4;have hBs4:B<w4.heap.size:=by have:=Blk.lt hb;have:=hb4.size;have:=g3.size;omega
    clear hI2 hbw2 hBs2 g3 gb g0 g1 g2 hb h0 h1 h2 hb4 k4 hws hka;go_wp2_with fail;go_roundg (gk - 1);case measure=>omega
    case rel=>
     refine⟨i+1,by go_num,by omega,by omega,hbw4,hBs4,?_⟩;rw[HR.out.1,List.flatMap_append];simpa[HR.out.2] using hI4
   ·have t1:decide ((i:Int)<(nl:Int))=false:=by simp;omega
    have t1':decide (i<nl)=false:=by simp;omega
    rw[List.take_of_length_le (by rw[HL.out];omega)] at hI;have hstr:Calls Tryz.prog 30 #[.pointer (some ⟨B,0,none⟩)] wr fun e w'=>e=.returned (.string (str (l.flatMap lineR)))∧Below B wr w':=Tryz.Builder_String_any B B (l.flatMap lineR) wr hI (Nat.le_of_lt hBs)
    clear hi hik hI;go_wp2_with fail;refine hstr.mono ?_;rintro e w4 ⟨rfl,hb4⟩;obtain⟨vb,w5,hr5,hs5,he5,hc5⟩:=conv_bytes (l.flatMap lineR) w4;have hc4:Chg [] w w4:=c1.nil (Chg.of_below (by rw[hB];exact hbw.trans hb4));have HH:Hid (Sees w5 1 vb (l.flatMap lineR).length (Bs (l.flatMap lineR))∧(∀k∈eyes vb,w.heap.size≤k)∧Chg [] w w5):=⟨hs5,fun k hk=>Nat.le_trans hc4.size (he5 k hk),hc4.nil hc5⟩;clear hstr hs5 he5 hc5 hc4 hbw hb4 hBs hlen hib t1 t1' hin;go_wp2_with fail;go_ret2;exact⟨_,rfl,HH.out⟩
end Go.Proofs.YtlbdklaggalgfaaGreatDoor
