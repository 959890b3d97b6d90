/- RefsD RefsE RefP RngB -/
import Derived.Test.YtlbdklaggalgfaaGreatDoorG38
set_option linter.unusedSimpArgs false
set_option linter.unusedVariables false
set_option maxHeartbeats 2000000
namespace Go.Aq
open Go.RowKit Go.Aq.Wd
def keyE:List UInt8:=[98,97,55,56,49,54,98,102,56,102,48,49,99,102,101,97,52,49,52,49,52,48,100,101,53,100,97,101,50,50,50,51,98,48,48,51,54,49,97,51,57,54,49,55,55,97,57,99,98,52,49,48,102,102,54,49,102,50,48,48,49,53,97,100]
def refE:RefD:=⟨false,[109,97,105,110],keyE⟩
def lineE:List UInt8:=[98,114,97,110,99,104,32,34,109,97,105,110,34,32]++keyE++[10]
theorem encE:encodeL [refE]=(lineE,0):=by decide+kernel
end Go.Aq
namespace Go.Proofs.YtlbdklaggalgfaaGreatDoor
open Go.RowKit Go.Aq Go.Aq.Wd
theorem first_any (w:World) (hT:Tabs w):
  Calls Tryz.prog 4 #[] w fun e w'=>e=.returned (.bool true)∧Chg [] w w':=by
 obtain⟨K,hK⟩:∃K,w.heap.size=K:=⟨_,rfl⟩;have hbx:Blk (w.alloc (.cells #[.bool false,.string (str [109,97,105,110]),.string (str keyE)] 42)) K #[.bool false,.string (str [109,97,105,110]),.string (str keyE)] 42:=Blk.new_at w _ _ hK;have hcx:Chg [] w (w.alloc (.cells #[.bool false,.string (str [109,97,105,110]),.string (str keyE)] 42)):=(Chg.refl _ _).alloc _;have hse:=Sees.blk hbx;have hen:=fun w' (h:Chg [] (w.alloc (.cells #[.bool false,.string (str [109,97,105,110]),.string (str keyE)] 42)) w')=>encode_any w' (hT.chg (hcx.nil h)) (.slice (some ⟨K,0,none⟩) 1 1) [refE] (hse.chg0 h) (by decide) (by
  intro r hr;simp only[List.mem_singleton] at hr;subst hr;decide)
 rw[encE] at hen;have r1:∀w,(Op.stringOp .add ⟨#[98,114,97,110,99,104,32,34,109,97,105,110,34,32]⟩ ⟨#[98,97,55,56,49,54,98,102,56,102,48,49,99,102,101,97,52,49,52,49,52,48,100,101,53,100,97,101,50,50,50,51,98,48,48,51,54,49,97,51,57,54,49,55,55,97,57,99,98,52,49,48,102,102,54,49,102,50,48,48,49,53,97,100]⟩).run Tryz.prog w=.ok (.string (str ([98,114,97,110,99,104,32,34,109,97,105,110,34,32]++keyE))) w:=
  fun w=>run_cat (show _=_ from str_cat [98,114,97,110,99,104,32,34,109,97,105,110,34,32] keyE) (by decide) w
 have r2:∀w,(Op.stringOp .add (str ([98,114,97,110,99,104,32,34,109,97,105,110,34,32]++keyE)) ⟨#[10]⟩).run Tryz.prog w=.ok (.string (str lineE)) w:=
  fun w=>run_cat (show _=_ from str_catL _ [10]) (by decide) w
 have e3:((str lineE).toList==(str lineE).toList)=true:=by simp
 go_enter Tryz.func4,Tryz.ntmps4;go_wp2_with fail;refine (hen _ (Chg.refl _ _)).mono ?_;rintro e w1 ⟨v1,rfl,hs1,-,c1⟩;have hcv:=fun w' (h:Chg [] w1 w')=>run_str8 (hs1.chg0 h)
 have hcv1:=hcv w1 (Chg.refl _ _);have C1:=zH (hcx.nil c1);clear hen hcv hs1 c1 hcx hbx hse;generalize [98,114,97,110,99,104,32,34,109,97,105,110,34,32]++keyE=l1 at *;generalize lineE=l2 at *;go_wp2_with fail;go_ret;exact⟨rfl,C1.out⟩
end Go.Proofs.YtlbdklaggalgfaaGreatDoor
namespace Go.Aq
open Go.RowKit Go.Aq.Wd
theorem Sees.rows {W:World} {k:Nat} {cs:Array Value} {e:TypeId} {m s:Nat} (h:Blk W k cs e) (hm:cs.size=m * s):Sees W s (.slice (some ⟨k,0,none⟩) m m) m cs.toList:=by
 refine⟨by simpa using hm,_,_,rfl,Nat.le_refl _,by simp,fun ad had j u hu=>?_⟩;cases had;rw[Addr.add_lit,Nat.zero_add,h.cell];simpa using hu
theorem cmpR_range (a b:RefD):cmpR a b= -1∨cmpR a b=0∨cmpR a b=1:=by
 unfold cmpR;split;·exact cmpB_range _ _
 ·split;·right;right;rfl
  ·left;rfl
end Go.Aq
namespace Go.Proofs.YtlbdklaggalgfaaGreatDoor
open Go.RowKit Go.Aq Go.Aq.Wd
end Go.Proofs.YtlbdklaggalgfaaGreatDoor
namespace Go.Aq.Wd
end Go.Aq.Wd
namespace Go.Aq
section
open Go.RowKit Go.Aq.Wd
def headLn (b:List UInt8):List UInt8:=if 10∈b then b.take (b.idxOf 10+1) else b
def restLn (b:List UInt8):List UInt8:=if 10∈b then b.drop (b.idxOf 10+1) else []
theorem head_rest (b:List UInt8):headLn b++restLn b=b:=by
 unfold headLn restLn;split;·exact List.take_append_drop _ _
 ·simp
theorem restLn_lt {b:List UInt8} (h:b≠[]):(restLn b).length<b.length:=by
 have hp:=List.length_pos_iff.2 h;unfold restLn;split;·simp only[List.length_drop];omega
 ·simpa using hp
def linesF:Nat→List UInt8→List (List UInt8)
 | 0,_=>[]
 | f+1,b=>if b=[] then [] else headLn b::linesF f (restLn b)
def linesL (b:List UInt8):List (List UInt8):=linesF b.length b
theorem linesF_nil:∀f,linesF f []=[]
 | 0=>rfl
 | _+1=>by simp[linesF]
theorem linesF_more:∀(f:Nat) (b:List UInt8) (k:Nat),b.length≤f→linesF (f+k) b=linesF f b
 | 0,b,k,h=>by
  have:b=[]:=List.length_eq_zero_iff.1 (by omega);subst this;rw[linesF_nil,linesF_nil]
 | f+1,b,k,h=>by
  by_cases hb:b=[];·subst hb;rw[linesF_nil,linesF_nil]
  ·have:=restLn_lt hb;rw[show f+1+k=(f+k)+1 by omega];simp only[linesF,if_neg hb];rw[linesF_more f _ k (by omega)]
theorem linesL_cons {b:List UInt8} (h:b≠[]):linesL b=headLn b::linesL (restLn b):=by
 have h1:=restLn_lt h;obtain⟨f,hf⟩:∃f,b.length=f+1:=⟨b.length - 1,by omega⟩;unfold linesL;rw[hf];simp only[linesF,if_neg h];obtain⟨k,hk⟩:∃k,f=(restLn b).length+k:=⟨f - (restLn b).length,by omega⟩;rw[hk,linesF_more _ _ k (Nat.le_refl _)]
theorem linesL_nil:linesL []=[]:=rfl
theorem linesL_len:∀(n:Nat) (b:List UInt8),b.length≤n→(linesL b).length≤b.length
 | 0,b,h=>by
  have:b=[]:=List.length_eq_zero_iff.1 (by omega);subst this;simp[linesL_nil]
 | n+1,b,h=>by
  by_cases hb:b=[];·subst hb;simp[linesL_nil]
  ·have h1:=restLn_lt hb;have:=linesL_len n (restLn b) (by omega);rw[linesL_cons hb,List.length_cons];omega
theorem idx_app {x r:List UInt8} (h:(10:UInt8)∉x):(x++10::r).idxOf 10=x.length:=by
 induction x with
 | nil=>simp
 | cons a t ih=>
  have ha:a≠10:=fun e=>h (by simp[e])
  have ht:(10:UInt8)∉t:=fun e=>h (by simp[e])
  rw[List.cons_append,List.idxOf_cons,show (a==10)=false by simpa using ha,cond_false,ih ht];simp
theorem head_app {x r:List UInt8} (h:(10:UInt8)∉x):headLn (x++10::r)=x++[10]∧restLn (x++10::r)=r:=by
 have hm:(10:UInt8)∈x++10::r:=by simp
 have e:x++10::r=(x++[10])++r:=by simp
 unfold headLn restLn;rw[if_pos hm,if_pos hm,idx_app h,e];have hl:x.length+1=(x++[(10:UInt8)]).length:=by simp
 rw[hl];exact⟨List.take_left,List.drop_left⟩
theorem lines_app {x r:List UInt8} (h:(10:UInt8)∉x):linesL (x++10::r)=(x++[10])::linesL r:=by
 rw[linesL_cons (by simp),(head_app h).1,(head_app h).2]
def trimN (x:List UInt8):List UInt8:=if x.getLast?=some 10 then x.dropLast else x
theorem trimN_end (x:List UInt8):trimN (x++[10])=x:=by
 unfold trimN;rw[if_pos (by simp)];simp
theorem trimN_len (x:List UInt8):(trimN x).length≤x.length:=by
 unfold trimN;split;·simp
 ·exact Nat.le_refl _
def lineD (x:List UInt8):Option RefD:=
 if (wordsL (trimN x)).2.2=0∧(wordsL (trimN x)).1.length=3 then some ⟨decide ((wordsL (trimN x)).1.getD 0 []=[116,97,103]),(wordsL (trimN x)).1.getD 1 [],(wordsL (trimN x)).1.getD 2 []⟩ else none
def readL:List (List UInt8)→Option (List RefD)
 | []=>some []
 | x::t=>match lineD x with
  | none=>none
  | some r=>(readL t).map (r::·)
theorem readL_snoc (x:List UInt8):∀(a:List (List UInt8)) (l:List RefD),readL a=some l→readL (a++[x])=(lineD x).map fun r=>l++[r]
 | [],l,h=>by
  simp only[readL,Option.some.injEq] at h;subst h;simp only[List.nil_append,readL];cases lineD x <;> rfl
 | y::t,l,h=>by
  simp only[readL] at h;cases hy:lineD y with
  | none=>rw[hy] at h;cases h
  | some r=>
   rw[hy] at h;obtain⟨m,hm,rfl⟩:=Option.map_eq_some_iff.1 h;simp only[List.cons_append,readL,hy,readL_snoc x t m hm];cases lineD x <;> rfl
theorem readL_bad {x:List UInt8} (hx:lineD x=none):∀(a b:List (List UInt8)),readL (a++x::b)=none
 | [],b=>by simp[readL,hx]
 | y::t,b=>by
  simp only[List.cons_append,readL];cases lineD y with
  | none=>rfl
  | some r=>rw[readL_bad hx t b];rfl
theorem readL_len:∀(a:List (List UInt8)) (l:List RefD),readL a=some l→l.length=a.length
 | [],l,h=>by simp only[readL,Option.some.injEq] at h;subst h;rfl
 | y::t,l,h=>by
  simp only[readL] at h;cases hy:lineD y with
  | none=>rw[hy] at h;cases h
  | some r=>
   rw[hy] at h;obtain⟨m,hm,rfl⟩:=Option.map_eq_some_iff.1 h;simp[readL_len t m hm]
def decL (b:List UInt8):List RefD×Nat:=match readL (linesL b) with
 | none=>([],4)
 | some l=>if encodeL l=(b,0) then (l,0) else ([],4)
theorem may_parts {l:List RefD} (h:mayL l=true):∀r∈l,nameL r.name=true∧validB r.key=true:=by
 intro r hr;obtain⟨j,hj,rfl⟩:=List.mem_iff_getElem.1 hr;have h1:=mayL_at h j hj;unfold mayAt at h1;simp only[Bool.and_eq_true] at h1;have e:l.getD j default=l[j]:=by rw[List.getD_eq_getElem?_getD,List.getElem?_eq_getElem hj];rfl
 rw[e] at h1;exact h1.1
theorem dec_ok {b:List UInt8} (h:(decL b).2=0):encodeL (decL b).1=(b,0):=by
 unfold decL at h ⊢;cases hr:readL (linesL b) with
 | none=>rw[hr] at h;simp at h
 | some l=>
  rw[hr] at h;simp only at h ⊢;split at h;·rename_i he;rw[if_pos he];exact he
  ·exact absurd h (by decide)
theorem dec_err {b:List UInt8} (h:(decL b).2≠0):decL b=([],4):=by
 unfold decL at h ⊢;cases hr:readL (linesL b) with
 | none=>rfl
 | some l=>
  rw[hr] at h;simp only at h ⊢;split at h;·exact absurd rfl h
  ·rename_i he;rw[if_neg he]
end
section
open Go.RowKit
theorem idx_byte:∀(l:List UInt8),Lib.indexByte l 10=if (10:UInt8)∈l then (l.idxOf 10:Int) else -1
 | []=>rfl
 | a::t=>by
  have ih:=idx_byte t;simp only[Lib.indexByte];by_cases h:a=10;·subst h;simp
  ·have h1:(a==10)=false:=by simpa using h
   have h2:((10:UInt8)∈a::t)↔(10:UInt8)∈t:=by simp[Ne.symm h]
   rw[h1,List.idxOf_cons,h1,cond_false,ih];by_cases hm:(10:UInt8)∈t
   ·rw[if_pos hm,if_pos (h2.2 hm)];have:((t.idxOf 10:Nat):Int)≠ -1:=by omega
    simp
   ·rw[if_neg hm,if_neg (fun e=>hm (h2.1 e))];simp
def leftAt (B:Nat) (W:World):Nat:=match W.cell? ⟨B,0,none⟩ with | some (.string s)=>s.size | _=>0
theorem leftAt_eq {B:Nat} {W:World} {r:List UInt8} {e:TypeId} (h:Blk W B #[.string (str r)] e):leftAt B W=r.length:=by
 unfold leftAt;rw[h.cell 0];simp[str_size]
theorem Blk.same {W W':World} {B:Nat} {cs:Array Value} {e:TypeId} (h:Blk W B cs e) (k:W'.heap[B]?=W.heap[B]?):Blk W' B cs e:=k.trans h
end
end Go.Aq
namespace Go.Proofs.YtlbdklaggalgfaaGreatDoor
open Go.RowKit Go.Shelf Go.Aq Go.Aq.Wd
attribute [local go_sem] Oper.semAt_some
set_option maxRecDepth 100000 in
theorem lines_seq (b:List UInt8) (hb:b.length≤1000000000) (n:Nat) (hn:2≤n) (B:Nat):
  SeqB n Tryz.prog 132 B #[.pointer (some ⟨B,0,none⟩)] (fun x:List UInt8=>Value.string (str x)) (fun xs=>xs=linesL b) (fun pre x=>pre.length≤1000000000∧x.length≤b.length) (fun W=>Blk W B #[.string (str b)] 9):=by
 intro l J Jx W hT hJB hJd hY h0;refine callsIn_of_wp Tryz.func132 rfl trivial ?_ rfl;simp only[Tryz.ntmps132,List.size_toArray,List.length_cons,List.length_nil,Nat.reduceAdd,Nat.reduceSub,Array.replicate_succ,Array.replicate_zero,List.push_toArray,List.append_toArray,List.nil_append,List.cons_append]
 gi_wp2
 gi_loopw [] (fun wr=>∃(pre:List (List UInt8)) (rest:List UInt8),linesL b=pre++linesL rest∧rest.length≤b.length∧Blk wr B #[.string (str rest)] 9∧J pre wr) (fun wr=>leftAt B wr)
 case atStart=>exact⟨[],b,rfl,Nat.le_refl _,hT,h0⟩
 case round=>
  obtain⟨pre,rest,hl,hrl,hbx,hj⟩:=hrel;by_cases hr:rest=[]
  ·subst hr;have x0:wr.cell? ⟨B,0,none⟩=some (.string (str [])):=hbx.cell 0;have hsz:(str []).size=0:=rfl;have HL:Hid (pre=linesL b):=by show _=_;rw[hl,linesL_nil,List.append_nil]
   clear hl
   gi_wp2
   go_end0
   exact⟨⟨_,rfl⟩,.inl ⟨pre,HL.out,hj⟩⟩
  ·have x0:wr.cell? ⟨B,0,none⟩=some (.string (str rest)):=hbx.cell 0;have f0:wr.frozen? ⟨B,0,none⟩=false:=hbx.frozen 0;have hsz:(str rest).size=rest.length:=str_size rest;have hpos:0<rest.length:=List.length_pos_iff.2 hr;have t1:decide ((0:Int)<(rest.length:Int))=true:=by simp;omega
   have t1':decide (0<rest.length)=true:=by simp;omega
   have hd:(str rest).data.toList=rest:=by simp[str]
   have hib:=idx_byte rest;have hix:=fun w=>Tryz.strings_IndexByte (str rest) 10 w
   rw[hd] at hix;have hlin:=linesL_cons hr;have hrest:=restLn_lt hr;have hpl:pre.length≤1000000000:=by
    have h1:=linesL_len b.length b (Nat.le_refl _);rw[hl,List.length_append] at h1;omega
   have hhl:(headLn rest).length≤b.length:=by
    have h1:=congrArg List.length (head_rest rest);rw[List.length_append] at h1;omega
   have hrl':rest.length≤1000000000:=by omega
   have HG:=zA hpl hhl;clear hpl hhl;have HL:=zD hl hlin hrest hrl hpos;by_cases h10:(10:UInt8)∈rest
   ·rw[if_pos h10] at hib;have e10:(10:Int).toNat.toUInt8=10:=rfl;rw[e10,hib] at hix;have hil:rest.idxOf 10<rest.length:=List.idxOf_lt_length_of_mem h10;have eh:headLn rest=rest.take (rest.idxOf 10+1):=if_pos h10;have er:restLn rest=rest.drop (rest.idxOf 10+1):=if_pos h10;generalize rest.idxOf 10=i at *;obtain⟨k,hk⟩:∃k,k=i+1:=⟨_,rfl⟩;rw[←hk] at eh er;have ex1:(str rest).extract 0 k=str (headLn rest):=by rw[eh];exact str_upto rest k
    have ex2:(str rest).extract k rest.length=str (restLn rest):=by rw[er];exact str_from rest k
    have hi0:(i:Int)+1=(k:Int):=by omega
    have hi2:(k:Int)≤(rest.length:Int):=by omega
    have hi3:k≤rest.length:=by omega
    have hi4:(0:Int)≤(k:Int):=by omega
    have bk: -9223372036854775808≤(k:Int)∧(k:Int)≤9223372036854775807:=by omega
    have hi1:wrap64 ((i:Int)+1)=(k:Int):=by rw[hi0];unfold wrap64;omega
    have hi5:IntKind.i64.wrap (k:Int)=(k:Int):=wrap_i64_nat k (by omega);clear hrl';have hi6:wrap64 (k:Int)=(k:Int):=by rw[←hi0];exact hi1.trans hi0.symm
    clear bk hk;clear hl hlin hrest hrl hpos hr h10 hib eh er hil
    gi_wp2
    refine⟨trivial,fun _=>by omega,(callsIn_wide.2 (hix _)).mono ?_⟩;rintro e w' ⟨rfl,hw⟩;rw[hw];clear hix hw w'
    gi_wp2
    refine wpIn_wide.2 ?_;refine wp_region_E [B] (by kernel_rfl) ?_;have y0:wr.drew.cell? ⟨B,0,none⟩=some (.string (str rest)):=x0;have g0:wr.drew.frozen? ⟨B,0,none⟩=false:=f0;have c0:Chg [B] wr.drew wr.drew:=Chg.refl _ _;refine tE 1 (.int .i64 (i:Int)) c0 (fun w4 c4=>?_) ?_;·go_simp
    refine yG ?_;refine tE 2 (.int .i64 (k:Int)) c0 (fun w4 c4=>?_) ?_;·go_simp
    refine yG ?_;refine tE 5 (.int .i64 (i:Int)) c0 (fun w4 c4=>?_) ?_;·go_simp
    refine yG ?_;refine tE 6 (.int .i64 (k:Int)) c0 (fun w4 c4=>?_) ?_;·go_simp
    refine yG ?_;refine wpAnyE_two 0 4 rfl rfl (by kernel_rfl) (by rfl) (by rfl) ?_ ?_
    ·skip
     have HcC:=zH c0;clear c0;go_simp;have c0:=HcC.out;refine⟨c0,?_⟩;refine yG ?_;refine tE 3 (.string (str (headLn rest))) c0 (fun w4 c4=>?_) ?_;·go_simp
     refine yG ?_;refine tE 8 (.string (str (headLn rest))) c0 (fun w4 c4=>?_) ?_;·go_simp
     refine yG ?_;refine oE 4 ?_;have HcC:=zH c0;clear c0;go_simp;have c0:=HcC.out;refine⟨c0,?_⟩;refine yG ?_;refine tE 7 (.string (str (restLn rest))) c0 (fun w4 c4=>?_) ?_;·go_simp
     refine yG ?_;refine oE 9 ?_;go_simp;refine⟨(Chg.refl [B] _).setCell (.inl (by simp)) _,?_⟩;refine yG ?_;refine wpAnyE_done (by kernel_rfl) ?_ _;have hj4:J pre (wr.setCell ⟨B,0,none⟩ (.string (str (restLn rest)))).drew:=(hJd _ _ (hJB _ _ _ hj));have hb4:Blk (wr.setCell ⟨B,0,none⟩ (.string (str (restLn rest)))).drew B #[.string (str (restLn rest))] 9:=((hbx.set 0 (.string (str (restLn rest)))).drew);generalize (wr.setCell ⟨B,0,none⟩ (.string (str (restLn rest)))).drew=wE at *;clear x0 f0;obtain⟨fn,tmps,assign,body,hy,hR⟩:=hY pre (headLn rest) wE HG.out hj4;(try dsimp only at hy);generalize headLn rest=hd at *;generalize restLn rest=rl at *
     gi_wp2
     refine⟨fun _=>by omega,hR.mono ?_⟩;rintro e W' (⟨rfl,hj',hk⟩ | ⟨rfl,hx'⟩)
     ·have hb':=hb4.same hk;clear hy hR
      gi_wp2
      go_roundw
      case rel=>
       obtain⟨q1,q2,q3,q4,q5⟩:=HL.out;exact⟨pre++[hd],rl,by rw[q1,q2];simp,by omega,hb',hj'⟩
      case measure=>
       obtain⟨q1,q2,q3,q4,q5⟩:=HL.out;rw[leftAt_eq hb',leftAt_eq hbx];exact q3
     ·clear hy hR
      gi_wp2
      refine bodyPost_ret (results_none rfl _ _ _) rfl ?_;obtain⟨q1,q2,q3,q4,q5⟩:=HL.out;exact⟨⟨_,rfl⟩,.inr ⟨pre++[hd],linesL rl,by rw[q1,q2];simp,hx'⟩⟩
    ·skip
     have HcC:=zH c0;clear c0;go_simp;have c0:=HcC.out;refine⟨c0,?_⟩;refine yG ?_;refine tE 7 (.string (str (restLn rest))) c0 (fun w4 c4=>?_) ?_;·go_simp
     refine yG ?_;refine oE 0 ?_;have HcC:=zH c0;clear c0;go_simp;have c0:=HcC.out;refine⟨c0,?_⟩;refine yG ?_;refine tE 3 (.string (str (headLn rest))) c0 (fun w4 c4=>?_) ?_;·go_simp
     refine yG ?_;refine tE 8 (.string (str (headLn rest))) c0 (fun w4 c4=>?_) ?_;·go_simp
     refine yG ?_;refine oE 9 ?_;go_simp;refine⟨(Chg.refl [B] _).setCell (.inl (by simp)) _,?_⟩;refine yG ?_;refine wpAnyE_done (by kernel_rfl) ?_ _;have hj4:J pre (wr.setCell ⟨B,0,none⟩ (.string (str (restLn rest)))).drew:=(hJd _ _ (hJB _ _ _ hj));have hb4:Blk (wr.setCell ⟨B,0,none⟩ (.string (str (restLn rest)))).drew B #[.string (str (restLn rest))] 9:=((hbx.set 0 (.string (str (restLn rest)))).drew);generalize (wr.setCell ⟨B,0,none⟩ (.string (str (restLn rest)))).drew=wE at *;clear x0 f0;obtain⟨fn,tmps,assign,body,hy,hR⟩:=hY pre (headLn rest) wE HG.out hj4;(try dsimp only at hy);generalize headLn rest=hd at *;generalize restLn rest=rl at *
     gi_wp2
     refine⟨fun _=>by omega,hR.mono ?_⟩;rintro e W' (⟨rfl,hj',hk⟩ | ⟨rfl,hx'⟩)
     ·have hb':=hb4.same hk;clear hy hR
      gi_wp2
      go_roundw
      case rel=>
       obtain⟨q1,q2,q3,q4,q5⟩:=HL.out;exact⟨pre++[hd],rl,by rw[q1,q2];simp,by omega,hb',hj'⟩
      case measure=>
       obtain⟨q1,q2,q3,q4,q5⟩:=HL.out;rw[leftAt_eq hb',leftAt_eq hbx];exact q3
     ·clear hy hR
      gi_wp2
      refine bodyPost_ret (results_none rfl _ _ _) rfl ?_;obtain⟨q1,q2,q3,q4,q5⟩:=HL.out;exact⟨⟨_,rfl⟩,.inr ⟨pre++[hd],linesL rl,by rw[q1,q2];simp,hx'⟩⟩
   ·rw[if_neg h10] at hib;have e10:(10:Int).toNat.toUInt8=10:=rfl;rw[e10,hib] at hix;have eh:headLn rest=rest:=if_neg h10;have er:restLn rest=[]:=if_neg h10;clear hl hlin hrest hrl hpos hr h10 hib
    gi_wp2
    refine⟨trivial,fun _=>by omega,(callsIn_wide.2 (hix _)).mono ?_⟩;rintro e w' ⟨rfl,hw⟩;rw[hw];clear hix hw w';rw[eh,er] at HL;rw[eh] at HG;clear eh er hrl';have hj4:J pre (wr.setCell ⟨B,0,none⟩ (.string ⟨#[]⟩)):=hJB _ _ _ hj;have hb4:Blk (wr.setCell ⟨B,0,none⟩ (.string ⟨#[]⟩)) B #[.string (str [])] 9:=hbx.set 0 (.string (str []));obtain⟨fn,tmps,assign,body,hy,hR⟩:=hY pre rest _ HG.out hj4;try dsimp only at hy
    gi_wp2
    refine⟨fun _=>by omega,hR.mono ?_⟩;rintro e W' (⟨rfl,hj',hk⟩ | ⟨rfl,hx'⟩)
    ·have hb':=hb4.same hk;clear hy hR
     gi_wp2
     go_roundw
     case rel=>
      obtain⟨q1,q2,q3,q4,q5⟩:=HL.out;exact⟨pre++[rest],[],by rw[q1,q2];simp,by simp,hb',hj'⟩
     case measure=>
      obtain⟨q1,q2,q3,q4,q5⟩:=HL.out;rw[leftAt_eq hb',leftAt_eq hbx];exact q3
    ·clear hy hR
     gi_wp2
     refine bodyPost_ret (results_none rfl _ _ _) rfl ?_;obtain⟨q1,q2,q3,q4,q5⟩:=HL.out;exact⟨⟨_,rfl⟩,.inr ⟨pre++[rest],linesL [],by rw[q1,q2];simp,hx'⟩⟩
end Go.Proofs.YtlbdklaggalgfaaGreatDoor
