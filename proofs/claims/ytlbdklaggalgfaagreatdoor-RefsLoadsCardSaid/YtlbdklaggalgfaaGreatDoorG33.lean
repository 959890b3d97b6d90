/- WordThms WordLaws Bld Bld2 WordA -/
import Derived.Test.YtlbdklaggalgfaaGreatDoorG32
import Derived.Lib.OthersKept
import Derived.Laws.Externs
set_option linter.unusedVariables false
set_option maxHeartbeats 2000000
namespace Go.Aq.Wd
theorem mem_escs (c:Nat):c∈escs↔special c=true:=by
 simp only[escs,special,low,List.mem_append,List.mem_cons,List.not_mem_nil,or_false,List.mem_range,List.mem_map,Bool.or_eq_true,Bool.and_eq_true,beq_iff_eq,decide_eq_true_eq];constructor
 ·rintro ((h | h) | ⟨a,h,rfl⟩);·omega
  ·omega
  ·omega
 ·intro h;by_cases h1:127≤c;·exact .inr ⟨c - 127,by omega,by omega⟩
  ·exact .inl (by omega)
theorem escs_apart:∀a∈escs,∀b∈escs,(writ a).isPrefixOf (writ b)=true→a=b:=by decide+kernel
theorem writ_ne (c:Nat):writ c≠[]:=by
 unfold writ;split;·simp
 ·split;·simp
  ·split;·simp
   ·exact enc1_ne c
theorem escs_one (r:List UInt8) (a b:Nat) (ha:a∈escs) (hb:b∈escs) (h1:(writ a).isPrefixOf r=true) (h2:(writ b).isPrefixOf r=true):a=b:=by
 rw[List.isPrefixOf_iff_prefix] at h1 h2;rcases List.prefix_or_prefix_of_prefix h1 h2 with h | h
 ·exact escs_apart a ha b hb (List.isPrefixOf_iff_prefix.2 h)
 ·exact (escs_apart b hb a ha (List.isPrefixOf_iff_prefix.2 h)).symm
theorem escO_some (r:List UInt8) (c:Nat) (h:escO r=some c):c∈escs∧(writ c).isPrefixOf r=true:=by
 unfold escO at h;exact⟨List.mem_of_find?_eq_some h,by simpa using List.find?_some h⟩
theorem escO_is (r:List UInt8) (c:Nat) (hc:c∈escs) (h:(writ c).isPrefixOf r=true):escO r=some c:=by
 cases he:escO r with
 | none=>
  unfold escO at he;rw[List.find?_eq_none] at he;exact absurd h (he c hc)
 | some d=>
  obtain⟨h1,h2⟩:=escO_some r d he;rw[escs_one r d c h1 hc h2 h]
theorem escO_none (r:List UInt8):escO r=none↔∀c∈escs,(writ c).isPrefixOf r=false:=by
 unfold escO;rw[List.find?_eq_none];constructor;·intro h c hc;simpa only[Bool.not_eq_true] using h c hc
 ·intro h c hc;simp only[Bool.not_eq_true];exact h c hc
theorem plainF_eq:∀(f g:Nat) (r:List UInt8),r.length≤f→r.length≤g→plainF f r=plainF g r
 | 0,0,_,_,_=>rfl
 | 0,g+1,r,h,_=>by
  have:r=[]:=List.eq_nil_of_length_eq_zero (by omega);simp[plainF,this]
 | f+1,0,r,_,h=>by
  have:r=[]:=List.eq_nil_of_length_eq_zero (by omega);simp[plainF,this]
 | f+1,g+1,r,hf,hg=>by
  have hp:=dec_pos r;by_cases hr:r=[];·simp[plainF,hr]
  ·have hl:1≤r.length:=List.length_pos_iff.2 hr;simp only[plainF];rw[plainF_eq f g _ (by rw[List.length_drop];omega) (by rw[List.length_drop];omega)]
theorem plainW_step (r:List UInt8) (h:r≠[]):plainW r=if bad (dec r) || low (dec r).1 then (0,false) else if (dec r).1=32 then (0,true) else if (dec r).1=34 then (0,false)
  else ((dec r).2+(plainW (r.drop (dec r).2)).1,(plainW (r.drop (dec r).2)).2):=by
 unfold plainW;have hl:1≤r.length:=List.length_pos_iff.2 h;have hp:=dec_pos r;obtain⟨n,hn⟩:∃n,r.length=n+1:=⟨r.length - 1,by omega⟩;rw[hn];simp only[plainF,if_neg h];rw[plainF_eq n _ _ (by rw[List.length_drop];omega) (Nat.le_refl _)]
theorem plainW_nil:plainW []=(0,true):=rfl
theorem quotF_eq:∀(f g:Nat) (r:List UInt8),r.length≤f→r.length≤g→quotF f r=quotF g r
 | 0,0,_,_,_=>rfl
 | 0,g+1,r,h,_=>by
  have:r=[]:=List.eq_nil_of_length_eq_zero (by omega);simp[quotF,this]
 | f+1,0,r,_,h=>by
  have:r=[]:=List.eq_nil_of_length_eq_zero (by omega);simp[quotF,this]
 | f+1,g+1,r,hf,hg=>by
  have hp:=dec_pos r;by_cases hr:r=[];·simp[quotF,hr]
  ·have hl:1≤r.length:=List.length_pos_iff.2 hr;have hw:∀k,quotF f (r.drop (writ k).length)=quotF g (r.drop (writ k).length):=fun k=>by
    have:1≤(writ k).length:=List.length_pos_iff.2 (writ_ne k);exact quotF_eq f g _ (by rw[List.length_drop];omega) (by rw[List.length_drop];omega)
   simp only[quotF,hw];rw[quotF_eq f g (r.drop (dec r).2) (by rw[List.length_drop];omega) (by rw[List.length_drop];omega)]
theorem quotW_nil:quotW []=([],0,2):=rfl
theorem quotW_step (r:List UInt8) (h:r≠[]):quotW r=if bad (dec r) || low (dec r).1 then ([],0,4) else if (dec r).1=34 then ([],1,0) else if (dec r).1=92 then
   (match escO r with
    | some k=>(enc1 k++(quotW (r.drop (writ k).length)).1,(writ k).length+(quotW (r.drop (writ k).length)).2.1,(quotW (r.drop (writ k).length)).2.2)
    | none=>if escShort r then ([],r.length,2) else ([],0,4))
  else (enc1 (dec r).1++(quotW (r.drop (dec r).2)).1,(dec r).2+(quotW (r.drop (dec r).2)).2.1,(quotW (r.drop (dec r).2)).2.2):=by
 unfold quotW;have hl:1≤r.length:=List.length_pos_iff.2 h;have hp:=dec_pos r;obtain⟨n,hn⟩:∃n,r.length=n+1:=⟨r.length - 1,by omega⟩;have hw:∀k,quotF n (r.drop (writ k).length)=quotF (r.drop (writ k).length).length (r.drop (writ k).length):=fun k=>by
  have:1≤(writ k).length:=List.length_pos_iff.2 (writ_ne k);exact quotF_eq n _ _ (by rw[List.length_drop];omega) (Nat.le_refl _)
 have hd:=quotF_eq n (r.drop (dec r).2).length (r.drop (dec r).2) (by rw[List.length_drop];omega) (Nat.le_refl _);rw[hn];simp only[quotF,if_neg h,hw,hd];split;·rfl
 ·split;·rfl
  ·split;·cases escO r <;> simp[hn]
   ·rfl
theorem writ_plain (c:Nat) (h:special c=false):writ c=enc1 c:=by
 simp only[special,Bool.or_eq_false_iff,beq_eq_false_iff_ne] at h;unfold writ;rw[if_neg (by omega),if_neg ?_,h.2];·simp
 ·rintro rfl;simp[low] at h
theorem writ_special (c:Nat) (h:special c=true):∃t,writ c=92::t:=by
 unfold writ;split;·exact⟨_,rfl⟩
 ·rename_i h1;split;·exact⟨_,rfl⟩
  ·have hl:low c=true:=by
    simp only[special,Bool.or_eq_true,beq_iff_eq] at h;rcases h with h | h
    ·exact absurd h h1
    ·exact h
   rw[if_pos hl];exact⟨_,rfl⟩
theorem nameL_of {l:List UInt8} {rs:List Nat} (h:sigs l=some rs):nameL l=nameR rs:=by unfold nameL;rw[h]
theorem countL_of {l:List UInt8} {rs:List Nat} (h:sigs l=some rs):countL l=(rs.length,0):=by unfold countL;rw[h]
theorem ok1 (c:Nat) (h:c<55296):∀x∈[c],okR x:=by intro x hx;simp at hx;subst hx;exact .inl h
end Go.Aq.Wd
namespace Go.Proofs.YtlbdklaggalgfaaGreatDoor
open Go.RowKit Go.Aq
theorem sl_u8:SliceTy Tryz.prog 38 5 (.int .u8 0) 1 1:=⟨Tryz.underlying38,by kernel_rfl,rfl,by decide⟩
theorem infoByte:(Tryz.prog.info? 5).map (fun i=>(i.zero,i.size,i.bytes))=some (some (.int .u8 0),1,1):=by kernel_rfl
theorem infoBld:(Tryz.prog.info? 68).map (·.size)=some 2:=by kernel_rfl
theorem liesBld:liesAt Tryz.prog Tryz.prog.depth 68 (2 / Tryz.prog.cellsOf 68) 0 68 1=true:=by kernel_rfl
theorem neB:68≠5:=by decide
set_option maxRecDepth 100000 in
theorem cc_used (b:Nat) (w:World) (h0:w.cell? ⟨b,0,none⟩=some (.pointer (some ⟨b,0,none⟩))):
  Calls Tryz.prog 88 #[.pointer (some ⟨b,0,none⟩)] w fun e w'=>e=.returned (.tuple #[])∧w'=w:=by
 obtain⟨j,hj,_⟩:=Option.map_eq_some_iff.1 infoBld;go_enter Tryz.func88,Tryz.ntmps88
 go_wp2
 rw[Lib.run_neq_ptr_same w _ Tryz.underlying66 hj]
 go_wp2
 go_end0
 exact⟨rfl,rfl⟩
set_option maxRecDepth 100000 in
theorem cc_fresh (b:Nat) (w:World) (h0:w.cell? ⟨b,0,none⟩=some (.pointer none)) (hsh:w.shape? b=some (68,2)) (hfz:w.frozen? ⟨b,0,none⟩=false):
  Calls Tryz.prog 88 #[.pointer (some ⟨b,0,none⟩)] w fun e w'=>e=.returned (.tuple #[])∧w'=w.setCell ⟨b,0,none⟩ (.pointer (some ⟨b,0,none⟩)):=by
 obtain⟨j,hj,hjs⟩:=Option.map_eq_some_iff.1 infoBld;go_enter Tryz.func88,Tryz.ntmps88
 go_wp2
 rw[Lib.run_to_unsafe w ⟨b,0,none⟩ Tryz.underlying66 Tryz.underlying219 hj (by rw[hjs];decide) hsh (Nat.zero_lt_succ 1)];simp only[Result.andThen];rw[Oper.upon_value]
 go_wp2
 rw[run_callFunc_extern Tryz.func147 (by kernel_rfl) (by kernel_rfl) (by kernel_rfl) (e:=Extern.AbiNoEscape.same) (by kernel_rfl)];rw[Lib.run_noEscape];simp only[Result.andThen];rw[Oper.upon_value]
 go_wp2
 rw[Lib.run_from_unsafe w ⟨b,0,none⟩ Tryz.underlying219 Tryz.underlying66 hj hsh liesBld];simp only[Result.andThen];rw[Oper.upon_value]
 go_wp2
 go_end0
 exact⟨rfl,rfl⟩
theorem cc_any (B b:Nat) (bs:List Value) (w:World) (h:Lib.IsBuilder 68 5 B b bs w):
  Calls Tryz.prog 88 #[.pointer (some ⟨b,0,none⟩)] w fun e w'=>e=.returned (.tuple #[])∧
   Lib.BuilderAt 68 5 B b (.pointer (some ⟨b,0,none⟩)) bs w'∧Below B w w'∧Lib.OthersKept 5 (some b) w w':=by
 rcases h with h | h
 ·refine (cc_fresh b w h.cell0 h.shape h.frozen0).mono ?_;rintro e w' ⟨rfl,rfl⟩;exact⟨rfl,h.used _,(Below.refl B w).setCell (p:=⟨b,0,none⟩) h.1 _,(Lib.OthersKept.refl _ _ w).setCell ⟨b,0,none⟩ rfl _⟩
 ·refine (cc_used b w h.cell0).mono ?_;rintro e w' ⟨rfl,rfl⟩;exact⟨rfl,h,Below.refl B _,Lib.OthersKept.refl _ _ _⟩
theorem own_kind {w:World} {B:Nat} {e:TypeId} {v:Value} {n:Nat} {xs:List Value} (h:w.ownsRow B e 1 v n xs):∀g,v.ownBlock=some g→∃c fz,w.heap[g]?=some (.cells c e fz):=by
 intro g hg;rcases h.2 with ⟨rfl,_⟩ | ⟨g',cap,cur,rfl,_,hgg,_⟩
 ·simp[Value.ownBlock] at hg
 ·simp[Value.ownBlock] at hg;subst hg;exact⟨cur,_,hgg⟩
theorem wByte (B b:Nat) (bs:List UInt8) (c:UInt8) (w:World) (h:Lib.IsBuilder 68 5 B b (Bs bs) w) (hlen:bs.length+1≤140737488355328) (hBw:B≤w.heap.size):
  Calls Tryz.prog 86 #[.pointer (some ⟨b,0,none⟩),.int .u8 c.toNat] w fun e w'=>e=.returned .nilIface∧
   Lib.IsBuilder 68 5 B b (Bs (bs++[c])) w'∧Below B w w'∧Lib.OthersKept 5 (some b) w w':=by
 obtain⟨i0,hi,hz0,hz1,hz2⟩:=info_parts infoByte;have hbl:=Bs_length bs;have ebs:Bs (bs++[c])=Bs bs++[.int .u8 (c.toNat:Int)]:=by rw[Bs_append];rfl
 rw[ebs];generalize (c.toNat:Int)=c at *;rw[←hbl] at hlen;clear hbl;generalize Bs bs=bs' at *;clear ebs;go_enter Tryz.func86,Tryz.ntmps86;go_wp2_with (go_at_call 88;refine (cc_any B b bs' _ h).mono ?_);rintro e w1 ⟨rfl,h1,hb1,k1⟩;obtain⟨hB,v,hbk,hown,hne⟩:=h1;have c0:w1.cell? ⟨b,0,none⟩=some (.pointer (some ⟨b,0,none⟩)):=by rw[Lib.cell_of_heap hbk];rfl
 have c1:w1.cell? ⟨b,1,none⟩=some v:=by rw[Lib.cell_of_heap hbk];rfl
 go_wp2_with (at_builtin;refine wpList_append_own _ rfl _ _ 38 rfl B 5 i0 (.int .u8 0) 1 1 Tryz.underlying38 hi hz0 hz1 hz2 rfl (by decide) _ _ _ rfl (hown.alloc _) ⟨w1.heap.size,0,none⟩ 1 1 [.int .u8 c] rfl rfl ?c1 ?c2 ?c3 ?c4 ?c5 ?_);case c1=>
  intro j u hj
  match j,hj with
  | 0,hj=>simp at hj;subst hj;simp[Addr.add]
 case c2=>intro u hu;simp at hu;subst hu;rfl
 case c3=>unfold maxLen;omega
 case c4=>omega
 case c5=>have:=hb1.size;simp;omega
 intro v' w2 hown' hgrow _;have hlt:b<w1.heap.size:=by
  rcases Nat.lt_or_ge b w1.heap.size with h' | h'
  ·exact h'
  ·simp[Array.getElem?_eq_none h'] at hbk
 have hb2:w2.heap[b]?=some (.cells #[.pointer (some ⟨b,0,none⟩),v] 68 (0,0)):=by
  rw[hgrow.block b (by simp;omega) (fun e=>hne e.symm),Lib.alloc_old w1 _ b hlt];exact hbk
 have d0:w2.cell? ⟨b,0,none⟩=some (.pointer (some ⟨b,0,none⟩)):=by rw[Lib.cell_of_heap hb2];rfl
 have d1:w2.cell? ⟨b,1,none⟩=some v:=by rw[Lib.cell_of_heap hb2];rfl
 have f1:w2.frozen? ⟨b,1,none⟩=false:=Lib.frozen_of_heap hb2 1;obtain⟨g,cap,rfl⟩:∃g cap,v'=.slice (some ⟨g,0,none⟩) (bs'.length+1) cap:=by
  rcases hown'.2 with ⟨_,h0⟩ | ⟨g,cap,cur,hv,_⟩
  ·omega
  ·exact⟨g,cap,hv⟩
 go_wp2
 go_ret;refine⟨rfl,.inr ?_,?_,?_⟩;·exact Lib.BuilderAt.put (T:=68) (e:=5) hB hb2 (bs':=bs'++[.int .u8 c]) (by simpa using hown') neB
 ·exact ((hb1.alloc (by have:=hb1.size;omega) _).grown hgrow (by have:=hb1.size;simp;omega) (fun k hk=>(hown.lt k hk).1)).setCell (p:=⟨b,1,none⟩) hB _
 ·exact ((k1.alloc _).grown hgrow (fun g hg=>own_kind (hown.alloc _) g hg)).setCell ⟨b,1,none⟩ rfl _
theorem wString (B b:Nat) (bs s:List UInt8) (w:World) (h:Lib.IsBuilder 68 5 B b (Bs bs) w) (hlen:bs.length+s.length≤140737488355328) (hBw:B≤w.heap.size):
  Calls Tryz.prog 28 #[.pointer (some ⟨b,0,none⟩),.string (str s)] w fun e w'=>e=.returned (.tuple #[.int .i64 s.length,.nilIface])∧
   Lib.IsBuilder 68 5 B b (Bs (bs++s)) w'∧Below B w w'∧Lib.OthersKept 5 (some b) w w':=by
 obtain⟨i0,hi,hz0,hz1,hz2⟩:=info_parts infoByte;have hbl:=Bs_length bs;have hsz:(str s).size=s.length:=str_size s;have ebs:Bs (bs++s)=Bs bs++Lib.strCells (str s):=by rw[Bs_append];simp[Lib.strCells,str,Bs,Bc]
 rw[ebs,←hsz];rw[←hsz] at hlen;generalize str s=s at *;rw[←hbl] at hlen;clear hbl;generalize Bs bs=bs' at *;clear ebs hsz;go_enter Tryz.func28,Tryz.ntmps28;go_wp2_with (go_at_call 88;refine (cc_any B b bs' _ h).mono ?_);rintro e w1 ⟨rfl,h1,hb1,k1⟩;obtain⟨hB,v,hbk,hown,hne⟩:=h1;have c0:w1.cell? ⟨b,0,none⟩=some (.pointer (some ⟨b,0,none⟩)):=by rw[Lib.cell_of_heap hbk];rfl
 have c1:w1.cell? ⟨b,1,none⟩=some v:=by rw[Lib.cell_of_heap hbk];rfl
 go_wp2_with (at_builtin;refine Lib.wpList_append_own_string _ rfl _ _ 38 9 rfl B 5 i0 Tryz.underlying38 Tryz.underlying9 hi hz0 hz1 hz2 _ _ _ rfl hown s rfl ?c3 ?c4 ?c5 ?_);case c3=>unfold maxLen;omega
 case c4=>omega
 case c5=>have:=hb1.size;omega
 intro v' w2 hown' hgrow _;have hlt:b<w1.heap.size:=by
  rcases Nat.lt_or_ge b w1.heap.size with h' | h'
  ·exact h'
  ·simp[Array.getElem?_eq_none h'] at hbk
 have hb2:w2.heap[b]?=some (.cells #[.pointer (some ⟨b,0,none⟩),v] 68 (0,0)):=by
  rw[hgrow.block b hlt (fun e=>hne e.symm)];exact hbk
 have d0:w2.cell? ⟨b,0,none⟩=some (.pointer (some ⟨b,0,none⟩)):=by rw[Lib.cell_of_heap hb2];rfl
 have d1:w2.cell? ⟨b,1,none⟩=some v:=by rw[Lib.cell_of_heap hb2];rfl
 have f1:w2.frozen? ⟨b,1,none⟩=false:=Lib.frozen_of_heap hb2 1;obtain⟨ao,n',cap,rfl⟩:∃ao n' cap,v'=.slice ao n' cap:=by
  rcases hown'.2 with ⟨hv,_⟩ | ⟨g,cap,cur,hv,_⟩
  ·exact⟨_,_,_,hv⟩
  ·exact⟨_,_,_,hv⟩
 go_wp2
 go_ret2;have hcl:(bs'++Lib.strCells s).length=bs'.length+s.size:=by rw[List.length_append,Lib.strCells_length]
 refine⟨rfl,.inr ?_,?_,?_⟩;·exact Lib.BuilderAt.put (T:=68) (e:=5) hB hb2 (bs':=bs'++Lib.strCells s) (by rw[hcl];exact hown') neB
 ·exact (hb1.grown hgrow (by have:=hb1.size;omega) (fun k hk=>(hown.lt k hk).1)).setCell (p:=⟨b,1,none⟩) hB _
 ·exact (k1.grown hgrow (fun g hg=>own_kind hown g hg)).setCell ⟨b,1,none⟩ rfl _
end Go.Proofs.YtlbdklaggalgfaaGreatDoor
namespace Go.Aq
open Go.RowKit
theorem wpList_appB {P:Program} {w:World} {ops:Array Oper} {rest:List Oper} {o:Oper} {a:Act} {Q:Exit→Act→World→Prop} (hgd:o.guard=none) (s x:Operand) (t:TypeId)
  (ho:o.op=.call { callee:=.builtin .append,args:=#[s,x],argTypes:=#[t,t] })
  {B:Nat} {e:TypeId} {z:Value} {bytes:Nat} (ht:SliceTy P t e z 1 bytes) {v:Value} {n:Nat} {xs:List Value} (hs:a.eval s=v) (hown:w.ownsRow B e 1 v n xs) (cs:Array Value) (m:Nat) (hm:cs.size=m) (hm0:0<m)
  (hx:a.eval x=.slice (some ⟨w.heap.size,0,none⟩) m m) (h1:∀u∈cs.toList,u.oneCell'=true) (hb:(n+m) * bytes≤140737488355328) (h63:n+m≤9223372036854775807) (hBw:B≤w.heap.size) {e':TypeId}
  (h:∀v' W',W'.ownsRow B e 1 v' (n+m) (xs++cs.toList)→Below B w W'→Lib.OthersKept e none w W'→wpList P ops Q rest (a.put o.dst v') W'):wpList P ops Q (o::rest) a (w.alloc (.cells cs e')):=by
 obtain⟨ht1,ht2,ht3,ht4⟩:=ht;obtain⟨i0,hi,hz0,hz1,hz2⟩:=info_parts ht2;refine wpList_append_own _ hgd _ _ t ho B e i0 z 1 bytes ht1 hi hz0 hz1 hz2 ht3 (by decide) _ _ _ hs (hown.alloc _) ⟨w.heap.size,0,none⟩ m m cs.toList hx (by simp[hm]) (fun j u hj=>?_) h1 (by unfold maxLen;omega) hb (by simp;omega) ?_
 ·rw[Addr.add_lit,Nat.zero_add,(Blk.new w cs e').cell];simpa using hj
 ·intro v' w2 hown' hgrow _;refine h v' w2 hown' (((Below.refl B w).alloc hBw _).grown hgrow (by simp;omega) (fun k hk=>(hown.lt k hk).1)) ?_;refine ((Lib.OthersKept.refl e none w).alloc _).grown hgrow fun g hg=>?_
  rcases (hown.alloc (.cells cs e')).2 with ⟨rfl,_⟩ | ⟨g',cap,cur,rfl,_,hgg,_⟩
  ·simp[Value.ownBlock] at hg
  ·simp[Value.ownBlock] at hg;subst hg;exact⟨cur,_,hgg⟩
theorem ownsRow_slice {w:World} {B:Nat} {e:TypeId} {v:Value} {n:Nat} {xs:List Value} (h:w.ownsRow B e 1 v n xs):∃ao cap,v=.slice ao n cap:=by
 rcases h.2 with ⟨hv,h0⟩ | ⟨g,cap,cur,hv,_⟩
 ·exact⟨none,0,by rw[hv,h0]⟩
 ·exact⟨_,_,hv⟩
end Go.Aq
namespace Go.Aq.Wd
open Go.Aq
theorem Bs_two (c:Nat) (h1:128≤c) (h2:c<2048):Bs (enc1 c)=[.int .u8 (192+(c:Int) / 64),.int .u8 (128+(c:Int) % 64)]:=by
 unfold enc1;rw[if_neg (by omega),if_pos h2];simp only[Bs,Bc,List.map_cons,List.map_nil];rw[u8n _ (by omega),u8n _ (by omega)];simp
theorem Bs_three (c:Nat) (h1:2048≤c) (h2:c<65536):Bs (enc1 c)=[.int .u8 (224+(c:Int) / 4096),.int .u8 (128+(c:Int) / 64 % 64),.int .u8 (128+(c:Int) % 64)]:=by
 unfold enc1;rw[if_neg (by omega),if_neg (by omega),if_pos h2];simp only[Bs,Bc,List.map_cons,List.map_nil];rw[u8n _ (by omega),u8n _ (by omega),u8n _ (by omega)];simp
theorem Bs_four (c:Nat) (h1:65536≤c) (h2:c≤1114111):Bs (enc1 c)=[.int .u8 (240+(c:Int) / 262144),.int .u8 (128+(c:Int) / 4096 % 64),.int .u8 (128+(c:Int) / 64 % 64),.int .u8 (128+(c:Int) % 64)]:=by
 unfold enc1;rw[if_neg (by omega),if_neg (by omega),if_neg (by omega)];simp only[Bs,Bc,List.map_cons,List.map_nil];rw[u8n _ (by omega),u8n _ (by omega),u8n _ (by omega),u8n _ (by omega)];simp
theorem Bs_one1 (c:Nat) (h1:c<128):Bs (enc1 c)=[.int .u8 (c:Int)]:=by
 rw[enc1_low c h1];simp only[Bs,Bc,List.map_cons,List.map_nil];rw[u8n _ (by omega)]
theorem enc1_of_Bs (c:Nat) (l:List Value) (h:Bs (enc1 c)=l):(enc1 c).length=l.length:=by rw[←h,Bs_length]
end Go.Aq.Wd
namespace Go.Proofs.YtlbdklaggalgfaaGreatDoor
open Go.RowKit Go.Aq Go.Aq.Wd
set_option maxRecDepth 100000 in
theorem aTwo (c:Nat) (hc:128≤c) (h2:c<2048) (v:Value) (n:Nat) (xs:List Value) (B:Nat) (w:World) (hown:w.ownsRow B 5 1 v n xs) (hlen:n+4≤140737488355328) (hBw:B≤w.heap.size):
  Calls Tryz.prog 261 #[v,.int .i32 c] w fun e w'=>∃v',e=.returned v'∧w'.ownsRow B 5 1 v' (n+(enc1 c).length) (xs++Bs (enc1 c))∧Below B w w'∧Lib.OthersKept 5 none w w':=by
 have he:=Bs_two c hc h2;have hl:=enc1_of_Bs c _ he;rw[he,hl];clear he hl;go_enter Tryz.func261,Tryz.ntmps261;go_wp2_with (at_builtin;refine wpList_appB rfl _ _ 38 rfl sl_u8 rfl hown #[.int .u8 (192+(c:Int) / 64),.int .u8 (128+(c:Int) % 64)] 2 rfl (by decide) rfl (by simp[Value.oneCell']) (by omega) (by omega) hBw ?_;intro v' w' h1 h2 h3);go_ret;exact⟨_,rfl,h1,h2,h3⟩
set_option maxRecDepth 100000 in
theorem aThree (c:Nat) (hc:2048≤c) (h2:c<65536) (hok:c<55296∨57344≤c) (v:Value) (n:Nat) (xs:List Value) (B:Nat) (w:World) (hown:w.ownsRow B 5 1 v n xs) (hlen:n+4≤140737488355328) (hBw:B≤w.heap.size):
  Calls Tryz.prog 261 #[v,.int .i32 c] w fun e w'=>∃v',e=.returned v'∧w'.ownsRow B 5 1 v' (n+(enc1 c).length) (xs++Bs (enc1 c))∧Below B w w'∧Lib.OthersKept 5 none w w':=by
 have he:=Bs_three c hc h2;have hl:=enc1_of_Bs c _ he;rw[he,hl];clear he hl;have t1:¬((c:Int)≤2047):=by omega
 rcases hok with hok | hok
 ·have t2:(c:Int)<55296:=by omega
  go_enter Tryz.func261,Tryz.ntmps261;go_wp2_with (at_builtin;refine wpList_appB rfl _ _ 38 rfl sl_u8 rfl hown #[.int .u8 (224+(c:Int) / 4096),.int .u8 (128+(c:Int) / 64 % 64),.int .u8 (128+(c:Int) % 64)] 3 rfl (by decide) rfl (by simp[Value.oneCell']) (by omega) (by omega) hBw ?_;intro v' w' h1 h2 h3);go_ret;exact⟨_,rfl,h1,h2,h3⟩
 ·have t2:¬((c:Int)<55296):=by omega
  have t3:(57343:Int)<(c:Int):=by omega
  have t4:(c:Int)≤65535:=by omega
  go_enter Tryz.func261,Tryz.ntmps261;go_wp2_with (at_builtin;refine wpList_appB rfl _ _ 38 rfl sl_u8 rfl hown #[.int .u8 (224+(c:Int) / 4096),.int .u8 (128+(c:Int) / 64 % 64),.int .u8 (128+(c:Int) % 64)] 3 rfl (by decide) rfl (by simp[Value.oneCell']) (by omega) (by omega) hBw ?_;intro v' w' h1 h2 h3);go_ret;exact⟨_,rfl,h1,h2,h3⟩
set_option maxRecDepth 100000 in
theorem aFour (c:Nat) (hc:65536≤c) (h2:c≤1114111) (v:Value) (n:Nat) (xs:List Value) (B:Nat) (w:World) (hown:w.ownsRow B 5 1 v n xs) (hlen:n+4≤140737488355328) (hBw:B≤w.heap.size):
  Calls Tryz.prog 261 #[v,.int .i32 c] w fun e w'=>∃v',e=.returned v'∧w'.ownsRow B 5 1 v' (n+(enc1 c).length) (xs++Bs (enc1 c))∧Below B w w'∧Lib.OthersKept 5 none w w':=by
 have he:=Bs_four c hc h2;have hl:=enc1_of_Bs c _ he;rw[he,hl];clear he hl;have t1:decide ((c:Int)≤2047)=false:=by simp;omega
 have t2:decide ((c:Int)<55296)=false:=by simp;omega
 have t3:decide ((57343:Int)<(c:Int))=true:=by simp;omega
 have t4:decide ((c:Int)≤65535)=false:=by simp;omega
 have t4':decide ((65535:Int)<(c:Int))=true:=by simp;omega
 have t5:decide ((c:Int)≤1114111)=true:=by simp;omega
 have hb:c≤2000000:=by omega
 have hb':(c:Int)≤2000000:=by omega
 clear hc h2;go_enter Tryz.func261,Tryz.ntmps261;go_wp2_with (at_builtin;refine wpList_appB rfl _ _ 38 rfl sl_u8 rfl hown #[.int .u8 (240+(c:Int) / 262144),.int .u8 (128+(c:Int) / 4096 % 64),.int .u8 (128+(c:Int) / 64 % 64),.int .u8 (128+(c:Int) % 64)] 4 rfl (by decide) rfl (by simp[Value.oneCell']) (by omega) (by omega) hBw ?_;intro v' w' h1 h2 h3);go_ret;exact⟨_,rfl,h1,h2,h3⟩
set_option maxRecDepth 100000 in
theorem aRune (c:Nat) (hc:okR c) (v:Value) (n:Nat) (xs:List Value) (B:Nat) (w:World) (hown:w.ownsRow B 5 1 v n xs) (hlen:n+4≤140737488355328) (hBw:B≤w.heap.size):
  Calls Tryz.prog 255 #[v,.int .i32 c] w fun e w'=>∃v',e=.returned v'∧w'.ownsRow B 5 1 v' (n+(enc1 c).length) (xs++Bs (enc1 c))∧Below B w w'∧Lib.OthersKept 5 none w w':=by
 have hc1:c≤1114111:=by unfold okR at hc;omega
 by_cases h1:c<128
 ·have he:=Bs_one1 c h1;have hl:=enc1_of_Bs c _ he;rw[he,hl];clear he hl hc;go_enter Tryz.func255,Tryz.ntmps255;go_wp2_with (at_builtin;refine wpList_appB rfl _ _ 38 rfl sl_u8 rfl hown #[.int .u8 (c:Int)] 1 rfl (by decide) rfl (by simp[Value.oneCell']) (by omega) (by omega) hBw ?_;intro v' w' h1 h2 h3);go_ret;exact⟨_,rfl,h1,h2,h3⟩
 ·have hq:Calls Tryz.prog 261 #[v,.int .i32 c] w fun e w'=>∃v',e=.returned v'∧w'.ownsRow B 5 1 v' (n+(enc1 c).length) (xs++Bs (enc1 c))∧Below B w w'∧Lib.OthersKept 5 none w w':=by
   by_cases h2:c<2048;·exact aTwo c (by omega) h2 v n xs B w hown hlen hBw
   ·by_cases h3:c<65536;·exact aThree c (by omega) h3 (by unfold okR at hc;omega) v n xs B w hown hlen hBw
    ·exact aFour c (by omega) hc1 v n xs B w hown hlen hBw
  have t1:¬((c:Int)≤127):=by omega
  clear hc hown;generalize Bs (enc1 c)=E at *;generalize (enc1 c).length=L at *;go_enter Tryz.func255,Tryz.ntmps255;go_wp2_with fail;refine hq.mono ?_;rintro e w' ⟨v',rfl,h1,h2,h3⟩;go_wp2_with fail;go_ret;exact⟨_,rfl,h1,h2,h3⟩
theorem wRune (B b:Nat) (bs:List UInt8) (c:Nat) (hc:okR c) (w:World) (h:Lib.IsBuilder 68 5 B b (Bs bs) w) (hlen:bs.length+4≤140737488355328) (hBw:B≤w.heap.size):
  Calls Tryz.prog 238 #[.pointer (some ⟨b,0,none⟩),.int .i32 c] w fun e w'=>(∃r,e=.returned r)∧
   Lib.IsBuilder 68 5 B b (Bs (bs++enc1 c)) w'∧Below B w w'∧Lib.OthersKept 5 (some b) w w':=by
 have hbl:=Bs_length bs;have hel:=enc1_len c;have hq:=fun v n xs w'=>aRune c hc v n xs B w'
 have hcl:(Bs (enc1 c)).length=(enc1 c).length:=Bs_length _;rw[Bs_append];rw[←hbl] at hlen;clear hbl hc;generalize Bs bs=bs' at *;generalize Bs (enc1 c)=E at *;generalize (enc1 c).length=L at *;obtain⟨n,hn'⟩:∃n,bs'.length=n:=⟨_,rfl⟩;rw[hn'] at hlen;go_enter Tryz.func238,Tryz.ntmps238;go_wp2_with fail;refine (cc_any B b bs' _ h).mono ?_;intro e w1 hh;obtain⟨rfl,h1,hb1,k1⟩:=hh;obtain⟨hB,v,hbk,hown,hne⟩:=h1;rw[hn'] at hown;obtain⟨ao,cap,rfl⟩:=ownsRow_slice hown;have c0:w1.cell? ⟨b,0,none⟩=some (.pointer (some ⟨b,0,none⟩)):=by rw[Lib.cell_of_heap hbk];rfl
 have c1:w1.cell? ⟨b,1,none⟩=some (.slice ao n cap):=by rw[Lib.cell_of_heap hbk];rfl
 go_wp2_with fail;refine (hq _ n bs' w1 hown (by omega) (by have:=hb1.size;omega)).mono ?_;intro e w2 hh;obtain⟨v',rfl,hown',hb2,k2⟩:=hh;have hbk2:w2.heap[b]?=some (.cells #[.pointer (some ⟨b,0,none⟩),.slice ao n cap] 68 (0,0)):=k2 b _ hbk (by simp) (fun c fz e=>by simp only[Obj.cells.injEq] at e;exact neB e.2.1);have d0:w2.cell? ⟨b,0,none⟩=some (.pointer (some ⟨b,0,none⟩)):=by rw[Lib.cell_of_heap hbk2];rfl
 have d1:w2.cell? ⟨b,1,none⟩=some (.slice ao n cap):=by rw[Lib.cell_of_heap hbk2];rfl
 have f1:w2.frozen? ⟨b,1,none⟩=false:=Lib.frozen_of_heap hbk2 1;obtain⟨ao',cap',rfl⟩:=ownsRow_slice hown';go_wp2_with fail;go_ret2;refine⟨⟨_,rfl⟩,.inr ?_,?_,?_⟩;·exact Lib.BuilderAt.put (T:=68) (e:=5) hB hbk2 (bs':=bs'++E) (by rw[List.length_append,hcl,hn'];exact hown') neB
 ·exact (hb1.trans hb2).setCell (p:=⟨b,1,none⟩) hB _
 ·refine (k1.trans ?_).setCell ⟨b,1,none⟩ rfl _;exact fun k o h1 _ h3=>k2 k o h1 (by simp) h3
end Go.Proofs.YtlbdklaggalgfaaGreatDoor
namespace Go.Aq
open Go.RowKit
theorem str_extract (l:List UInt8) (i j:Nat):(str l).extract i j=str ((l.take j).drop i):=by
 unfold str;apply ByteArray.ext;rw[ByteArray.data_extract];simp[List.drop_take]
theorem str_from (l:List UInt8) (i:Nat):(str l).extract i l.length=str (l.drop i):=by rw[str_extract,List.take_length]
theorem str_upto (l:List UInt8) (i:Nat):(str l).extract 0 i=str (l.take i):=by rw[str_extract];rfl
theorem Chg.iterAt {S:List Nat} {a w:World} (h:Chg S a w) {k:Nat} (hk:k∈S∨a.heap.size≤k) (s:ByteArray) (pos:Nat):Chg S a (w.iterAt k s pos):=
 h.trans (T:=[k]) ⟨rfl,rfl,rfl,by rw[Lib.iterAt_size];exact Nat.le_refl _,fun i hi hn=>Lib.iterAt_other w k i s pos (by simpa using hn)⟩ (by simpa using hk)
theorem Chg.range {S:List Nat} {a w:World} (h:Chg S a w) (s:ByteArray) (pos:Nat):Chg S a (w.iter s pos):=h.alloc _
namespace Wd
theorem rb {a b:Bool} (h:a=b):Ending.returned (.bool a)=.returned (.bool b):=by rw[h]
theorem get_str (l:List UInt8) (i:Nat):(str l).get! i=l.getD i 0:=by
 unfold str ByteArray.get!;simp[List.getD_eq_getElem?_getD];rfl
theorem decode_str (l:List UInt8) (p:Nat):Utf8.decode (str l) p=dec (l.drop p):=by
 rw[Lib.decode_at];unfold dec;have e:∀k,(l.drop p).getD k 0=l.getD (p+k) 0:=fun k=>by simp[List.getD_eq_getElem?_getD]
 rw[get_str,get_str,get_str,get_str,e,e,e,e,str_size,List.length_drop];rfl
def decG (l:List UInt8):Nat×Nat:=if l=[] then (65533,0) else dec l
theorem decodeGo_str (l:List UInt8):Lib.decodeGo (str l)=decG l:=by
 unfold Lib.decodeGo decG;rw[str_size,decode_str,List.drop_zero];by_cases h:l=[];·simp[h]
 ·rw[if_neg h,if_neg (fun e=>h (List.eq_nil_of_length_eq_zero e))]
theorem dec_fst (l:List UInt8):(dec l).1≤2000000:=by
 by_cases h:l=[];·subst h;decide
 ·cases hb:bad (dec l) with
  | true=>rw[bad_iff] at hb;rw[hb];decide
  | false=>
   have:=(dec_good l h hb).1;unfold okR at this;omega
end Wd
end Go.Aq
namespace Go.Proofs.YtlbdklaggalgfaaGreatDoor
open Go.RowKit Go.Aq Go.Aq.Wd
def Tabs (w:World):Prop:=Lib.Utf8Tabs 1 2 w∧(∃m,w.cell? ⟨0,0,none⟩=some (.int .i64 m))∧w.cell? ⟨5,15,none⟩=some (.int .u8 4)
theorem Tabs.chg {w w':World} (h:Tabs w) (c:Chg [] w w'):Tabs w':=by
 obtain⟨⟨h1,h2⟩,⟨m,h3⟩,h4⟩:=h;exact⟨⟨fun i hi=>c.cell_some (h1 i hi) (by simp),fun i hi=>⟨c.cell_some (h2 i hi).1 (by simp),c.cell_some (h2 i hi).2 (by simp)⟩⟩,⟨m,c.cell_some h3 (by simp)⟩,c.cell_some h4 (by simp)⟩
theorem dec_any (l:List UInt8) (w:World) (hT:Tabs w):
  Calls Tryz.prog 189 #[.string (str l)] w fun e w'=>e=.returned (.tuple #[.int .i32 (decG l).1,.int .i64 (decG l).2])∧Chg [] w w':=by
 have h:=Tryz.utf8_DecodeRuneInString (str l) w hT.1;rw[decodeGo_str] at h;exact h.mono fun e w' ⟨h1,h2⟩=>⟨h1,Chg.of_below h2⟩
theorem whole_any (l:List UInt8) (w:World) (hT:Tabs w):
  Calls Tryz.prog 144 #[.string (str l)] w fun e w'=>e=.returned (.bool (decide (1<(decG l).2)))∧Chg [] w w':=by
 have hd:=dec_any l w hT;generalize (decG l).1=a at *;generalize (decG l).2=b at *;go_enter Tryz.func144,Tryz.ntmps144;go_wp2_with fail;refine hd.mono ?_;rintro e w1 ⟨rfl,c1⟩;go_wp2_with fail;go_ret;exact⟨rb (by simp;omega),c1⟩
theorem low_any (c:Nat) (hc:c≤2000000) (w:World):
  Calls Tryz.prog 145 #[.int .i32 c] w fun e w'=>e=.returned (.bool (low c))∧w'=w:=by
 go_enter Tryz.func145,Tryz.ntmps145;go_wp2_with fail;(all_goals go_ret);(all_goals refine⟨rb ?_,rfl⟩);all_goals (rw[Bool.eq_iff_iff];simp[low];omega)
theorem letter_any (c:Nat) (hc:c≤2000000) (w:World):
  Calls Tryz.prog 140 #[.int .i32 c] w fun e w'=>e=.returned (.bool (letter c))∧w'=w:=by
 go_enter Tryz.func140,Tryz.ntmps140;go_wp2_with fail;(all_goals go_ret);(all_goals refine⟨rb ?_,rfl⟩);(all_goals (try simp only[beq_iff_eq,beq_eq_false_iff_ne,ne_eq] at *));all_goals (rw[Bool.eq_iff_iff];simp only[letter,Bool.or_eq_true,Bool.and_eq_true,decide_eq_true_eq,beq_iff_eq,bne_iff_ne,ne_eq,Bool.false_eq_true,true_iff,false_iff];omega)
theorem next_at (l:List UInt8) (w:World) (k pos:Nat) (hk:w.heap[k]?=some (.stringIter (str l) pos)) (h:pos<l.length) (ty:TypeId):
  (Instr.next (.pointer (some ⟨k,0,none⟩)) true ty).run Tryz.prog w=.ok (.tuple #[.bool true,.int .i64 pos,.int .i32 (dec (l.drop pos)).1]) (w.iterAt k (str l) (pos+(dec (l.drop pos)).2)):=by
 have:=Lib.run_next_any_at (P:=Tryz.prog) w k (str l) pos ty hk (by rw[str_size];exact h);rw[decode_str] at this;exact this
theorem next_end (l:List UInt8) (w:World) (k pos:Nat) (hk:w.heap[k]?=some (.stringIter (str l) pos)) (h:¬pos<l.length) (ty:TypeId):
  (Instr.next (.pointer (some ⟨k,0,none⟩)) true ty).run Tryz.prog w=.ok (.tuple #[.bool false]) w:=
 Lib.run_next_end_at (P:=Tryz.prog) w k (str l) pos ty hk (by rw[str_size];exact h)
theorem drop_ne (l:List UInt8) (p:Nat) (h:p<l.length):l.drop p≠[]:=by
 intro e;have:=congrArg List.length e;simp at this;omega
theorem dec_fits (l:List UInt8) (p:Nat) (h:p<l.length):p+(dec (l.drop p)).2≤l.length:=by
 have:=dec_le _ (drop_ne l p h);rw[List.length_drop] at this;omega
def Pre (l:List UInt8) (pos:Nat) (pre:List Nat):Prop:=sigs l=(sigs (l.drop pos)).map (pre++·)
theorem Pre.zero (l:List UInt8):Pre l 0 []:=by unfold Pre;simp
theorem Pre.step {l:List UInt8} {pos:Nat} {pre:List Nat} (h:Pre l pos pre) (hp:pos<l.length) (hb:bad (dec (l.drop pos))=false):Pre l (pos+(dec (l.drop pos)).2) (pre++[(dec (l.drop pos)).1]):=by
 unfold Pre at *;rw[h,sigs_step _ (drop_ne l pos hp),hb];simp only[Bool.false_eq_true,if_false,List.drop_drop,Option.map_map];congr 1;funext x;simp
theorem Pre.bad {l:List UInt8} {pos:Nat} {pre:List Nat} (h:Pre l pos pre) (hp:pos<l.length) (hb:Wd.bad (dec (l.drop pos))=true):sigs l=none:=by
 unfold Pre at h;rw[h,sigs_step _ (drop_ne l pos hp),hb];rfl
theorem Pre.all {l:List UInt8} {pos:Nat} {pre:List Nat} (h:Pre l pos pre) (hp:¬pos<l.length):sigs l=some pre:=by
 unfold Pre at h;rw[h,List.drop_eq_nil_of_le (by omega),sigs_nil];simp
theorem count_any (l:List UInt8) (w:World) (hT:Tabs w) (hl:l.length≤1000000000):
  Calls Tryz.prog 85 #[.string (str l)] w fun e w'=>e=.returned (.tuple #[.int .i64 (countL l).1,.int .i64 (countL l).2])∧Chg [] w w':=by
 have hsz:=str_size l;obtain⟨K,hK⟩:∃K,w.heap.size=K:=⟨_,rfl⟩;go_enter Tryz.func85,Tryz.ntmps85;go_wp2_with fail;go_loopg [4] l.length (fun k vn wr=>∃(pos:Nat) (pre:List Nat),vn=.int .i64 pre.length∧pos+k=l.length∧pre.length≤pos∧wr.heap[K]?=some (.stringIter (str l) pos)∧Chg [] w wr∧Pre l pos pre);case atStart=>
  refine⟨0,[],rfl,by omega,by simp,?_,(Chg.refl _ _).range _ _,Pre.zero l⟩;rw[←hK];exact World.iter_heap w (str l) 0
 case round=>
  obtain⟨pos,pre,rfl,hpk,hpl,hit,hc,hpre⟩:=hrel;by_cases hp:pos<l.length
  ·have hnx:=fun ty=>next_at l wr K pos hit hp ty
   have hfit:=dec_fits l pos hp;have hdp:=dec_pos (l.drop pos);have hd1:=dec_fst (l.drop pos);have hcn:=hc.iterAt (k:=K) (.inr (by omega)) (str l) (pos+(dec (l.drop pos)).2);have hitn:=Lib.iterAt_heap wr K (str l) pos (pos+(dec (l.drop pos)).2) hit;have hst:=hpre.step hp;have hbd:=hpre.bad hp;have hG:decG (l.drop pos)=dec (l.drop pos):=by unfold decG;rw[if_neg (drop_ne l pos hp)]
   have he:=str_from l pos;have hwh:=whole_any (l.drop pos) (wr.iterAt K (str l) (pos+(dec (l.drop pos)).2)) (hT.chg hcn);rw[hG] at hwh;clear hG;generalize dec (l.drop pos)=d at *;obtain⟨c,n⟩:=d;simp only at *;generalize wr.iterAt K (str l) (pos+n)=w1 at *;have HST:=zH hst;have HBD:=zH hbd;have HP:=zA hpk hpl;have hpb:pre.length≤1000000000:=by omega
   have hpb':(pre.length:Int)≤1000000000:=by omega
   clear hst hbd hpre hit hc hpk hpl;by_cases h3:c=65533
   ·subst h3;by_cases h1:1<n
    ·have hg:=HST.out (not_bad _ n (by omega));have td:decide (1<n)=true:=by simpa using h1
     rw[td] at hwh;go_wp2_with fail;refine hwh.mono ?_;rintro e w2 ⟨rfl,c2⟩;have hit2:=(c2.block K (Array.getElem?_eq_some_iff.1 hitn).1 (by simp)).trans hitn;have hc2:=hcn.nil c2;go_wp2_with fail;go_roundg (gk - n);case measure=>have:=HP.out;omega
     case rel=>exact⟨pos+n,pre++[65533],by simp,by have:=HP.out;omega,by have:=HP.out;simp;omega,hit2,hc2,hg⟩
    ·have hn1:n=1:=by omega
     subst hn1;have hs:=HBD.out rfl;have hcl:countL l=(0,4):=by unfold countL;rw[hs]
     have HCL:=zH hcl;have td:decide (1<1)=false:=rfl;rw[td] at hwh;clear hcl hs;go_wp2_with fail;refine hwh.mono ?_;rintro e w2 ⟨rfl,c2⟩;go_wp2_with fail;go_ret2;exact⟨by rw[HCL.out];rfl,hcn.nil c2⟩
   ·have t1:((c:Int)==65533)=false:=by simp;omega
    have hg:=HST.out (not_bad c n (by omega));go_wp2_with fail;go_roundg (gk - n);case measure=>have:=HP.out;omega
    case rel=>exact⟨pos+n,pre++[c],by simp,by have:=HP.out;omega,by have:=HP.out;simp;omega,hitn,hcn,hg⟩
  ·have hnx:=fun ty=>next_end l wr K pos hit hp ty
   have hs:=hpre.all hp;have hcl:=countL_of hs;go_wp2_with fail;go_ret2;exact⟨by rw[hcl];rfl,hc⟩
end Go.Proofs.YtlbdklaggalgfaaGreatDoor
