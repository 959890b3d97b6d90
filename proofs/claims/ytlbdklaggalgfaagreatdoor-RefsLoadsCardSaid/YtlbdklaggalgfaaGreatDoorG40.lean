/- RngC RngD -/
import Derived.Test.YtlbdklaggalgfaaGreatDoorG39
set_option linter.unusedSimpArgs false
set_option linter.unusedVariables false
set_option maxHeartbeats 4000000
namespace Go.Aq.Wd
theorem enc1_len4P (c:Nat):(enc1 c).length≤4:=by
 unfold enc1;(repeat' split);all_goals simp
theorem quotF_lenP:∀(f:Nat) (r:List UInt8),(quotF f r).1.length≤4 * f
 | 0,r=>by simp[quotF]
 | f+1,r=>by
  rw[quotF];split;·simp
  ·split;·simp
   ·split;·simp
    ·split
     ·split
      ·rename_i k _;have h1:=quotF_lenP f (r.drop (writ k).length);have h2:=enc1_len4P k;simp only[List.length_append];omega
      ·split <;> simp
     ·have h1:=quotF_lenP f (r.drop (dec r).2);have h2:=enc1_len4P (dec r).1;simp only[List.length_append];omega
theorem wordW_lenP (r:List UInt8):(wordW r).1.length≤4 * r.length:=by
 unfold wordW;split
 ·split;·simp
  ·split;·simp
   ·have h:=quotF_lenP (r.drop 1).length (r.drop 1);simp only[List.length_drop] at h;unfold quotW;simp only[List.length_drop];omega
 ·simp only[List.length_take];omega
theorem wordsF_lenP (n B:Nat):∀(f:Nat) (r:List UInt8) (acc:List (List UInt8)),r.length≤B→(∀y∈acc,y.length≤4 * B)→∀y∈(wordsF n f r acc).1,y.length≤4 * B
 | 0,r,acc,hr,ha=>ha
 | f+1,r,acc,hr,ha=>by
  intro y hy;simp only[wordsF] at hy;split at hy;·exact ha y hy
  ·split at hy;·simp at hy
   ·split at hy;·simp at hy
    ·refine wordsF_lenP n B f _ _ (by simp only[List.length_drop];omega) ?_ y hy;intro z hz;rcases List.mem_append.1 hz with hz | hz
     ·exact ha z hz
     ·simp only[List.mem_singleton] at hz;rw[hz];have h:=wordW_lenP (r.drop (blanks r));simp only[List.length_drop] at h;omega
theorem words_boundP (s:List UInt8):∀y∈(wordsL s).1,y.length≤4 * s.length:=wordsF_lenP _ _ _ _ _ (Nat.le_refl _) (by simp)
end Go.Aq.Wd
namespace Go.Aq
open Go.RowKit Go.Aq.Wd
def lineW (t:List UInt8):Option RefD:=if (wordsL t).2.2=0∧(wordsL t).1.length=3 then some ⟨decide ((wordsL t).1.getD 0 []=[116,97,103]),(wordsL t).1.getD 1 [],(wordsL t).1.getD 2 []⟩ else none
theorem lineD_W (x:List UInt8):lineD x=lineW (trimN x):=rfl
theorem lineW_len {t:List UInt8} {r:RefD} (h:lineW t=some r):r.name.length≤4 * t.length∧r.key.length≤4 * t.length:=by
 unfold lineW at h;split at h
 ·rename_i h1;have hb:=words_boundP t;have hg:∀j,j<3→((wordsL t).1.getD j []).length≤4 * t.length:=fun j hj=>by
   rw[List.getD_eq_getElem?_getD,List.getElem?_eq_getElem (by omega)];exact hb _ (List.getElem_mem _)
  rw[←Option.some.inj h];exact⟨hg 1 (by decide),hg 2 (by decide)⟩
 ·cases h
def refZ:RefD:=⟨false,[],[]⟩
theorem trim_eq (x:List UInt8):Lib.trimSuffix x [10]=trimN x:=by
 unfold Lib.trimSuffix trimN Lib.hasSuffix;by_cases h:x.getLast?=some 10
 ·obtain⟨y,rfl⟩:=List.getLast?_eq_some_iff.1 h;rw[if_pos h];simp[List.isSuffixOf_iff_suffix]
 ·rw[if_neg h];rw[if_neg];intro hs;apply h;simp only[List.isSuffixOf_iff_suffix] at hs;obtain⟨y,rfl⟩:=hs;simp
end Go.Aq
namespace Go.Proofs.YtlbdklaggalgfaaGreatDoor
open Go.RowKit Go.Aq Go.Aq.Wd
theorem ref_ty:ArrTy Tryz.prog 42 3:=⟨⟨_,Tryz.underlying42,rfl⟩,by kernel_rfl⟩
set_option maxRecDepth 100000 in
theorem lines_make (b:List UInt8) (w:World):Calls Tryz.prog 74 #[.string (str b)] w fun e w'=>e=.returned (.func (.func 132) #[] #[.pointer (some ⟨w.heap.size,0,none⟩)])∧Blk w' w.heap.size #[.string (str b)] 9∧Chg [] w w':=by
 have hb:=Blk.new w #[.string (str b)] 9;have hc:=(Chg.refl [] w).alloc (.cells #[.string (str b)] 9);have HB:=zA hb hc;clear hb hc;go_enter Tryz.func74,Tryz.ntmps74;go_wp2_with fail;go_ret;exact⟨rfl,HB.out⟩
set_option maxRecDepth 100000 in
theorem line_bad (t:List UInt8) (w:World) (hT:Tabs w) (ht:t.length≤1000000) (h:¬((wordsL t).2.2=0∧(wordsL t).1.length=3)):
  Calls Tryz.prog 75 #[.string (str t)] w fun e w'=>e=.returned (.tuple #[rfV refZ,.bool false])∧Chg [] w w':=by
 obtain⟨K,hK⟩:∃K,w.heap.size=K:=⟨_,rfl⟩;have hbK:Blk (w.alloc (.cells #[.bool false,.string ⟨#[]⟩,.string ⟨#[]⟩] 42)) K #[.bool false,.string ⟨#[]⟩,.string ⟨#[]⟩] 42:=Blk.new_at w _ _ hK;have hc1:Chg [] w (w.alloc (.cells #[.bool false,.string ⟨#[]⟩,.string ⟨#[]⟩] 42)):=(Chg.refl [] w).alloc _;have hw:=words_any t (w.alloc (.cells #[.bool false,.string ⟨#[]⟩,.string ⟨#[]⟩] 42)) (hT.chg hc1) (by omega);have aT:ArrTy Tryz.prog 42 (#[.bool false,.string ⟨#[]⟩,.string ⟨#[]⟩]:Array Value).size:=ref_ty;generalize (wordsL t).2.2=er at *;generalize (wordsL t).2.1=wh at *;obtain⟨nl,hnl⟩:∃n,(wordsL t).1.length=n:=⟨_,rfl⟩;rw[hnl] at hw h;generalize (wordsL t).1=L at *;have HC:=zH hc1;clear hc1 hnl;by_cases h0:er=0
 ·subst h0;have h3:nl≠3:=fun e=>h ⟨rfl,e⟩
  have t1:((nl:Int) != 3)=true:=by simp;omega
  have t1':(nl != 3)=true:=by simp;omega
  clear h h3;go_enter Tryz.func75,Tryz.ntmps75;go_wp2_with fail;refine hw.mono ?_;rintro e w2 ⟨v2,rfl,hF2⟩;obtain⟨ao,cp,rfl,-⟩:=hF2.shape;have hbK2:=hbK.chg0 hF2.chg;have cw2:=HC.out.nil hF2.chg;clear hw hbK;go_wp2_with (with_reducible refine wpList_stA rfl 42 _ _ rfl hbK2 aT rfl (by simp[Value.oneCell']) rfl rfl ?_;intro w20 hb20 c20 hs20);refine bodyPost_ret (results_AT rfl _ _ hb20 aT rfl) rfl ⟨rfl,cw2.trans c20 fun k hk=>?_⟩;simp at hk;right;omega
 ·have t1:(((er:Nat):Int) != 0)=true:=by simp;omega
  have t1':(er != 0)=true:=by simp;omega
  clear h h0;go_enter Tryz.func75,Tryz.ntmps75;go_wp2_with fail;refine hw.mono ?_;rintro e w2 ⟨v2,rfl,hF2⟩;obtain⟨ao,cp,rfl,-⟩:=hF2.shape;have hbK2:=hbK.chg0 hF2.chg;have cw2:=HC.out.nil hF2.chg;clear hw hbK;go_wp2_with (with_reducible refine wpList_stA rfl 42 _ _ rfl hbK2 aT rfl (by simp[Value.oneCell']) rfl rfl ?_;intro w20 hb20 c20 hs20);refine bodyPost_ret (results_AT rfl _ _ hb20 aT rfl) rfl ⟨rfl,cw2.trans c20 fun k hk=>?_⟩;simp at hk;right;omega
set_option maxRecDepth 100000 in
theorem line_good (t l0 l1 l2:List UInt8) (w:World) (hT:Tabs w) (ht:t.length≤1000000) (h0:(wordsL t).2.2=0) (hL:(wordsL t).1=[l0,l1,l2]):
  Calls Tryz.prog 75 #[.string (str t)] w fun e w'=>e=.returned (.tuple #[rfV ⟨decide (l0=[116,97,103]),l1,l2⟩,.bool true])∧Chg [] w w':=by
 obtain⟨K,hK⟩:∃K,w.heap.size=K:=⟨_,rfl⟩;have hbK:Blk (w.alloc (.cells #[.bool false,.string ⟨#[]⟩,.string ⟨#[]⟩] 42)) K #[.bool false,.string ⟨#[]⟩,.string ⟨#[]⟩] 42:=Blk.new_at w _ _ hK;have hc1:Chg [] w (w.alloc (.cells #[.bool false,.string ⟨#[]⟩,.string ⟨#[]⟩] 42)):=(Chg.refl [] w).alloc _;have hw:=words_any t (w.alloc (.cells #[.bool false,.string ⟨#[]⟩,.string ⟨#[]⟩] 42)) (hT.chg hc1) (by omega);rw[h0,hL] at hw;generalize (wordsL t).2.1=wh at *;have HC:=zH hc1;obtain⟨b,hb⟩:∃b,b=decide (l0=[116,97,103]):=⟨_,rfl⟩;have e1:((str l0).toList==(⟨#[116,97,103]⟩:ByteArray).toList)=b:=by rw[show (⟨#[116,97,103]⟩:ByteArray)=str [116,97,103] from rfl,str_eq,hb]
 have e2:((str l0).toList==[116,97,103])=b:=by rw[str_toList,hb];rw[Bool.eq_iff_iff];simp
 rw[←hb];clear hc1 h0 hL hb;go_enter Tryz.func75,Tryz.ntmps75;go_wp2_with fail;refine hw.mono ?_;rintro e w2 ⟨v2,rfl,hF2⟩;obtain⟨g,cp2,rfl,hcp,-,hgl⟩:=hF2.own.pos (by simp);have z0:w2.cell? ⟨g,0,none⟩=some (.string (str l0)):=by rw[hF2.own.cellAt 0 (by simp)];rfl
 have z1:w2.cell? ⟨g,1,none⟩=some (.string (str l1)):=by rw[hF2.own.cellAt 1 (by simp)];rfl
 have z2:w2.cell? ⟨g,2,none⟩=some (.string (str l2)):=by rw[hF2.own.cellAt 2 (by simp)];rfl
 have hbK2:=hbK.chg0 hF2.chg;have cw2:=HC.out.nil hF2.chg;clear hw hbK hF2;simp only[List.length_cons,List.length_nil,Nat.reduceAdd,Nat.zero_add] at *;go_upto_region 4 with (fail);refine wp_region_S (fun i=>i==11) (by kernel_rfl) ?_;refine tS 0 (.slice (some ⟨g,0,none⟩) 3 cp2) (fun w4 c4=>?_) ?_;·go_simp
 refine yG ?_;refine tS 1 (.pointer (some ⟨g,0,none⟩)) (fun w4 c4=>?_) ?_;·go_simp
 refine yG ?_;refine tS 2 (.string (str l0)) (fun w4 c4=>?_) ?_
 ·have z:=c4.cell_some z0 (by simp);go_simp
 refine yG ?_;refine tS 3 (.bool b) (fun w4 c4=>?_) ?_;·go_simp
 refine yG ?_;refine tS 4 (.slice (some ⟨g,0,none⟩) 3 cp2) (fun w4 c4=>?_) ?_;·go_simp
 refine yG ?_;refine tS 5 (.pointer (some ⟨g,1,none⟩)) (fun w4 c4=>?_) ?_;·go_simp
 refine yG ?_;refine tS 6 (.string (str l1)) (fun w4 c4=>?_) ?_
 ·have z:=c4.cell_some z1 (by simp);go_simp
 refine yG ?_;refine tS 7 (.slice (some ⟨g,0,none⟩) 3 cp2) (fun w4 c4=>?_) ?_;·go_simp
 refine yG ?_;refine tS 8 (.pointer (some ⟨g,2,none⟩)) (fun w4 c4=>?_) ?_;·go_simp
 refine yG ?_;refine tS 9 (.string (str l2)) (fun w4 c4=>?_) ?_
 ·have z:=c4.cell_some z2 (by simp);go_simp
 refine yG ?_;refine tS 10 (.agg #[.bool b,.string (str l1),.string (str l2)]) (fun w4 c4=>?_) ?_;·go_simp
 refine yG ?_;refine wpAnyS_last 11 rfl (by kernel_rfl) rfl (by rfl) (fun w5 c5=>?_);refine wp_stA (cs:=#[.bool b,.string (str l1),.string (str l2)]) 42 _ _ rfl (hbK2.chg0 c5) ref_ty rfl (by simp[Value.oneCell']) rfl rfl ?_;intro w6 hb6 c6 hs6;refine yG ?_;refine wpAny_only 12 rfl (by kernel_rfl) (by rfl) ?_;go_simp;refine wpAny_fin (by kernel_rfl) ?_ _;refine yG ?_;have cw6:Chg [] w w6:=(cw2.nil c5).trans c6 fun k hk=>by simp at hk;right;omega
 clear z0 z1 z2 hs6 c6 c5;go_wp2_with fail;refine bodyPost_ret (results_AT rfl _ _ hb6 ref_ty rfl) rfl ⟨rfl,cw6⟩
def lineV (o:Option RefD):Value:=match o with | some r=>.tuple #[rfV r,.bool true] | none=>.tuple #[rfV refZ,.bool false]
theorem line_any (t:List UInt8) (w:World) (hT:Tabs w) (ht:t.length≤1000000):Calls Tryz.prog 75 #[.string (str t)] w fun e w'=>e=.returned (lineV (lineW t))∧Chg [] w w':=by
 by_cases h:(wordsL t).2.2=0∧(wordsL t).1.length=3
 ·obtain⟨l0,l1,l2,hL⟩:∃a b c,(wordsL t).1=[a,b,c]:=by
   match hm:(wordsL t).1,h.2 with
   | [a,b,c],_=>exact⟨a,b,c,rfl⟩
  have e:lineW t=some ⟨decide (l0=[116,97,103]),l1,l2⟩:=by
   unfold lineW;rw[if_pos h,hL];rfl
  rw[e];exact line_good t l0 l1 l2 w hT ht h.1 hL
 ·have e:lineW t=none:=if_neg h;rw[e];exact line_bad t w hT ht h
end Go.Proofs.YtlbdklaggalgfaaGreatDoor
namespace Go.Aq
open Go.RowKit
theorem chg_putR (W:World) (l:Nat) (o:Obj):Chg [l] W (W.putObj l o):=⟨rfl,rfl,rfl,by simp[World.putObj],fun k hk hm=>World.putObj_heap_other (fun e=>hm (by simp[e]))⟩
theorem own_cellsR {W:World} {e:TypeId} {size n:Nat} {v:Value} {xs:List Value} (h:Own W e size v n xs) {k:Nat} (hk:k∈v.ownBlock.toList):∃cs,Blk W k cs e:=by
 obtain⟨h1,h2⟩:=h;rcases h2 with ⟨rfl,_⟩ | ⟨g,cap,cs,rfl,_,hb,_⟩
 ·simp[Value.ownBlock] at hk
 ·simp[Value.ownBlock] at hk;subst hk;exact⟨_,hb⟩
theorem own_no_putR {W:World} {e:TypeId} {size n:Nat} {v:Value} {xs:List Value} (h:Own W e size v n xs) {l:Nat} (hl:∃o0:Obj,W.heap[l]?=some o0∧o0.isCells=false):l∉v.ownBlock.toList:=fun hk=>by
 obtain⟨cs,hb⟩:=own_cellsR h hk;obtain⟨o0,h1,h2⟩:=hl;have:=h1.symm.trans hb;cases this;cases h2
theorem results_cc {P:Program} {fn:Func} {p u:Tmp} {ty tu:TypeId} (h:fn.results=#[.cell p ty,.cell u tu]) (tmps:Array Value) (w:World) {g g':Nat} {v v':Value} (hp:tmps.getD p undef=.pointer (some ⟨g,0,none⟩)) (hu:tmps.getD u undef=.pointer (some ⟨g',0,none⟩))
  (ha:∀w,(isAgg ty).run P w=.ok false w) (hb:∀w,(isAgg tu).run P w=.ok false w) (c1:w.cell? ⟨g,0,none⟩=some v) (c2:w.cell? ⟨g',0,none⟩=some v'):(results fn tmps).run P w=.ok (.tuple #[v,v']) w:=by
 have l1:(load ⟨g,0,none⟩).run P w=.ok v w:=by simp[go_sem,c1]
 have l2:(load ⟨g',0,none⟩).run P w=.ok v' w:=by simp[go_sem,c2]
 have hp':tmps[p]?.getD undef=.pointer (some ⟨g,0,none⟩):=by simpa using hp
 have hu':tmps[u]?.getD undef=.pointer (some ⟨g',0,none⟩):=by simpa using hu
 simp only[results,h];simp[Sem.run_bind,Result.andThen,loadVar,ha,hb,hp',hu',asAddr,l1,l2]
theorem blk_cells {W:World} {k:Nat} {cs:Array Value} {e:TypeId} (h:Blk W k cs e):∃o:Obj,W.heap[k]?=some o∧o.isCells=true:=⟨_,h,rfl⟩
theorem two_laid {w3:World} {K D:Nat} {x y sv ev:Value} {t u:TypeId} (b5:Blk w3 K #[x] t) (b6:Blk w3 (K+1) #[y] u) (hm:w3.heap[D]?=some (.deferred (some []))):
  ((w3.setCell ⟨K,0,none⟩ sv).setCell ⟨K+1,0,none⟩ ev).heap[D]?=some (.deferred (some []))∧(((w3.setCell ⟨K,0,none⟩ sv).setCell ⟨K+1,0,none⟩ ev).putObj D (.deferred none)).cell? ⟨K,0,none⟩=some sv∧
   (((w3.setCell ⟨K,0,none⟩ sv).setCell ⟨K+1,0,none⟩ ev).putObj D (.deferred none)).cell? ⟨K+1,0,none⟩=some ev∧Chg [K,K+1,D] w3 (((w3.setCell ⟨K,0,none⟩ sv).setCell ⟨K+1,0,none⟩ ev).putObj D (.deferred none)):=by
 have hDl:D<w3.heap.size:=(Array.getElem?_eq_some_iff.1 hm).1;have n1:D≠K:=fun e=>by
  subst e;have:=hm.symm.trans b5;cases this
 have n2:D≠K+1:=fun e=>by
  subst e;have:=hm.symm.trans b6;cases this
 have c5:Blk ((w3.setCell ⟨K,0,none⟩ sv).setCell ⟨K+1,0,none⟩ ev) K #[sv] t:=(b5.set 0 sv).set_ne (by simp) ev;have c6:Blk ((w3.setCell ⟨K,0,none⟩ sv).setCell ⟨K+1,0,none⟩ ev) (K+1) #[ev] u:=(b6.set_ne (by simp) sv).set 0 ev;have cS:Chg [K,K+1,D] w3 ((w3.setCell ⟨K,0,none⟩ sv).setCell ⟨K+1,0,none⟩ ev):=((Chg.refl [K,K+1,D] w3).setCell (.inl (by simp)) _).setCell (.inl (by simp)) _;have cP:=chg_putR ((w3.setCell ⟨K,0,none⟩ sv).setCell ⟨K+1,0,none⟩ ev) D (.deferred none);have cK:Chg [K,K+1] w3 ((w3.setCell ⟨K,0,none⟩ sv).setCell ⟨K+1,0,none⟩ ev):=((Chg.refl [K,K+1] w3).setCell (.inl (by simp)) _).setCell (.inl (by simp)) _;exact⟨(cK.block D hDl (by simp;omega)).trans hm,(c5.chg cP (by simp;omega)).cell 0,(c6.chg cP (by simp;omega)).cell 0,cS.trans cP fun k hk=>.inl (by simp at hk;subst hk;simp)⟩
end Go.Aq
namespace Go.Proofs.YtlbdklaggalgfaaGreatDoor
open Go.RowKit Go.Shelf Go.Aq Go.Aq.Wd
def DecI (w0:World) (K B:Nat) (pre:List (List UInt8)) (W:World):Prop:=
 ∃(acc:List RefD) (v:Value),readL pre=some acc∧(∀r∈acc,r.name.length≤800000∧r.key.length≤800000)∧Fresh w0 W 42 3 v acc.length (Rfs acc)∧B∉v.ownBlock.toList∧
  Blk W K #[.slice none 0 0] 29∧Blk W (K+1) #[.int .i64 0] 30∧Blk W (K+2) #[v] 29∧B<W.heap.size
def DecX (w0:World) (K:Nat) (pre:List (List UInt8)) (W:World):Prop:=
 (∃p x,pre=p++[x]∧lineD x=none)∧Blk W K #[.slice none 0 0] 29∧Blk W (K+1) #[.int .i64 4] 30∧Chg [] w0 W
theorem DecI.step {w0 W W':World} {K B l:Nat} {pre:List (List UInt8)} (h:DecI w0 K B pre W) (c:Chg [l] W W') (hl:∀v:Value,B∉v.ownBlock.toList→∀n xs,Go.Aq.Own W 42 3 v n xs→l∉v.ownBlock.toList) (hK:K+2<l) (hw:w0.heap.size=K):DecI w0 K B pre W':=by
 obtain⟨acc,v,h1,h2,h3,h4,h5,h6,h7,h8⟩:=h;exact⟨acc,v,h1,h2,⟨h3.own.chg c (fun k hk=>by simp only[List.mem_singleton];rintro rfl;exact hl v h4 _ _ h3.own hk),h3.chg.trans c fun k hk=>by simp at hk;right;omega,h3.new⟩,h4,h5.chg c (by simp;omega),h6.chg c (by simp;omega),h7.chg c (by simp;omega),Nat.lt_of_lt_of_le h8 c.size⟩
theorem DecI.nil {w0 W W':World} {K B:Nat} {pre:List (List UInt8)} (h:DecI w0 K B pre W) (c:Chg [] W W'):DecI w0 K B pre W':=by
 obtain⟨acc,v,h1,h2,h3,h4,h5,h6,h7,h8⟩:=h;exact⟨acc,v,h1,h2,h3.to c,h4,h5.chg0 c,h6.chg0 c,h7.chg0 c,Nat.lt_of_lt_of_le h8 c.size⟩
theorem DecX.step {w0 W W':World} {K l:Nat} {pre:List (List UInt8)} (h:DecX w0 K pre W) (c:Chg [l] W W') (hK:K+2<l) (hw:w0.heap.size=K):DecX w0 K pre W':=by
 obtain⟨h1,h2,h3,h4⟩:=h;exact⟨h1,h2.chg c (by simp;omega),h3.chg c (by simp;omega),h4.trans c fun k hk=>by simp at hk;right;omega⟩
attribute [local go_sem] Oper.semAt_some
theorem sl_ref:SliceTy Tryz.prog 29 42 (.agg #[.bool false,.string ⟨#[]⟩,.string ⟨#[]⟩]) 3 40:=⟨Tryz.underlying29,by kernel_rfl,rfl,by decide⟩
set_option maxRecDepth 100000 in
theorem decode_any (w:World) (hT:Tabs w) (v:Value) (n:Nat) (b:List UInt8) (hv:Sees w 1 v n (Bs b)) (hb:b.length≤200000):
  Calls Tryz.prog 23 #[v] w fun e w'=>∃v',e=.returned (.tuple #[v',.int .i64 (decL b).2])∧Sees w' 3 v' (decL b).1.length (Rfs (decL b).1)∧Chg [] w w':=by
 obtain⟨K,hK⟩:∃K,w.heap.size=K:=⟨_,rfl⟩;obtain⟨ao,cap,rfl,hcap,hno⟩:=hv.shape;obtain⟨w1,hw1⟩:∃w1,w1=((w.alloc (.cells #[.slice none 0 0] 29)).alloc (.cells #[.int .i64 0] 30)).alloc (.cells #[.slice none 0 0] 29):=⟨_,rfl⟩;have hc1:Chg [] w w1:=by rw[hw1];exact (((Chg.refl [] w).alloc _).alloc _).alloc _
 have hb2:Blk w1 K #[.slice none 0 0] 29:=by rw[hw1];exact ((Blk.new_at w _ _ hK).alloc _).alloc _
 have hb3:Blk w1 (K+1) #[.int .i64 0] 30:=by rw[hw1];exact (Blk.new_at _ _ _ (by simp[hK])).alloc _
 have hb4:Blk w1 (K+2) #[.slice none 0 0] 29:=by rw[hw1];exact Blk.new_at _ _ _ (by simp[hK])
 have hcv:=run_str8 (hv.chg0 hc1);rw[hw1] at hcv;have hlm:=fun w'=>lines_make b w'
 have ia:∀w,(isAgg 29).run Tryz.prog w=.ok false w:=fun w=>by kernel_rfl
 have ib:∀w,(isAgg 30).run Tryz.prog w=.ok false w:=fun w=>by kernel_rfl
 have HB:=zD hc1 hb2 hb3 hb4 hv;clear hc1 hb2 hb3 hb4 hno hcap;refine callsIn_wide.1 (callsIn_of_wp_marks (n:=8) Tryz.func23 rfl trivial ?_ rfl);simp only[Tryz.ntmps23,List.size_toArray,List.length_cons,List.length_nil,Nat.reduceAdd,Nat.reduceSub,Array.replicate_succ,Array.replicate_zero,List.push_toArray,List.append_toArray,List.nil_append,List.cons_append]
 gi_wp2
 rw[←hw1];clear hcv hw1;refine⟨trivial,(callsIn_wide.2 (hlm _)).mono ?_⟩;rintro e w2 ⟨rfl,hbB,c2⟩;obtain⟨B,hB⟩:∃B,w1.heap.size=B:=⟨_,rfl⟩;rw[hB] at hbB;rw[hB];obtain⟨hc1,hb2,hb3,hb4,hv⟩:=HB.out;have hKB:K+2<B:=by have:=hb4.lt;omega
 have cw2:=hc1.nil c2;have hb2:=hb2.chg0 c2;have hb3:=hb3.chg0 c2;have hb4:=hb4.chg0 c2;have hv2:=hv.chg0 cw2;have HS:=zF cw2 hb2 hb3 hb4 hv2 hbB hKB;clear hc1 hb2 hb3 hb4 hv cw2 hv2 hbB hKB c2 hB hlm HB
 gi_wp2
 obtain⟨cw2,hb2,hb3,hb4,hv2,hbB,hKB⟩:=HS.out;have hBl:=hbB.lt;refine range_cell (by decide) (gf:=132) (B:=B) (lb:=#[.pointer (some ⟨B,0,none⟩)]) rfl (enters_of Tryz.func132 (by kernel_rfl) rfl) (lines_seq b (by omega) 7 (by decide) B)
  (fun o o'=>(hbB.alloc o).alloc o') hBl (DecI w K B) (DecX w K)
  (fun pre W o h=>h.nil ((Chg.refl [] W).alloc o))
  (fun pre W l o hl ho h=>h.step (chg_putR W l o) (fun v _ n xs hown=>own_no_putR hown ho) (by omega) hK)
  (fun pre W l o hl ho h=>h.step (chg_putR W l o) (by omega) hK)
  (fun pre W v h=>h.step ((Chg.refl [B] W).setCell (.inl (by simp)) _) (fun v' hv' _ _ _=>hv') (by omega) hK)
  (fun pre W h=>h.nil (Chg.refl [] W).drew)
  ⟨[],.slice none 0 0,rfl,by simp,(Fresh.nil w _ _).to cw2,by simp[Value.ownBlock],hb2,hb3,hb4,hBl⟩
  (fun x=>{ tmps:=#[Value.slice ao n cap,undef,.pointer (some ⟨K,0,none⟩),.pointer (some ⟨K+1,0,none⟩),.pointer (some ⟨K+1+1,0,none⟩),.string (str x),undef,undef,undef,undef,.slice ao n cap,.string (str b),.func (.func 132) #[] #[.pointer (some ⟨B,0,none⟩)],.string (str x),undef,undef,undef,undef,undef,undef,undef,undef,undef,undef,undef,undef,undef,undef,undef,undef,undef,undef,undef,undef,undef,undef,undef,undef,undef,undef,undef],defers:=[] }) ?assign ?body ?done ?stop
 case assign=>
  intro l x W Kx hKx;simp only[List.setIfInBounds_toArray,List.set_cons_zero,List.set_cons_succ]
  gi_wp2
  exact hKx
 case body=>
  intro l pre x W hG hI;clear hb2 hb3 hb4 hv2 hbB HS cw2;dsimp only;have htr:=fun w=>Tryz.strings_TrimSuffix (str x) ⟨#[10]⟩ w (by rw[str_size];omega)
  have hdx:(str x).data.toList=x:=by simp[str]
  have hd10:(⟨#[10]⟩:ByteArray).data.toList=[10]:=rfl;rw[hdx,hd10,trim_eq] at htr;have etr:(⟨(trimN x).toArray⟩:ByteArray)=str (trimN x):=rfl;rw[etr] at htr;have hli:=fun w' (c:Chg [] w w')=>line_any (trimN x) w' (hT.chg c) (by have:=trimN_len x;omega)
  rw[←lineD_W] at hli
  gi_wp2
  refine⟨trivial,(CallsIn.inRound l (callsIn_wide.2 (htr _))).mono ?_⟩;rintro e w' ⟨rfl,hw'⟩;rw[hw'];clear htr hw' w' hdx hd10 etr
  gi_wp2
  obtain⟨acc,vv,h1,h2,h3,h4,h5,h6,h7,h8⟩:=hI;have hlen:=readL_len pre acc h1;have hsn:=readL_snoc x pre acc h1;cases hx:lineD x with
  | none=>
   rw[hx] at hli;simp only[lineV,rfV,refZ] at hli;refine⟨trivial,(CallsIn.inRound l (callsIn_wide.2 (hli _ h3.chg))).mono ?_⟩;rintro e w3 ⟨rfl,c3⟩;obtain⟨w4,hw4⟩:∃w4,w4=w3.alloc (.cells #[.bool false,.string (str []),.string (str [])] 42):=⟨_,rfl⟩;have c34:Chg [] w3 w4:=by rw[hw4];exact (Chg.refl [] w3).alloc _
   have b5:=(h5.chg0 c3).chg0 c34;have b6:=(h6.chg0 c3).chg0 c34;have x5:=b5.cell 0;have x6:=b6.cell 0;have f5:=b5.frozen 0;have f6:=b6.frozen 0;have HW:=zF h3.chg c3 c34 b5 b6 h5 h6;have HX:=zH hx;rw[hw4] at x5 x6 f5 f6;clear h1 h2 h3 h4 h5 h6 h7 hlen hsn hx hli c3 c34 b5 b6;simp only[List.getElem?_toArray,List.getElem?_cons_zero] at x5 x6
   gi_wp2
   rw[←hw4];obtain⟨cW,c3,c34,b5,b6,h5,h6⟩:=HW.out;have cS:Chg [K,K+1] W ((w4.setCell ⟨K,0,none⟩ (.slice none 0 0)).setCell ⟨K+1,0,none⟩ (.int .i64 4)):=
    (((Chg.refl [K,K+1] W).trans (c3.nil c34) (by simp)).setCell (.inl (by simp)) _).setCell (.inl (by simp)) _
   refine⟨keeps_of_chg cS fun k hk=>?_,⟨pre,x,rfl,HX.out⟩,(b5.set 0 _).set_ne (by simp) _,(b6.set_ne (by simp) _).set 0 _,cW.trans cS fun k hk=>by simp at hk;right;omega⟩;simp at hk;rcases hk with rfl | rfl
   ·exact blk_cells h5
   ·exact blk_cells h6
  | some r=>
   rw[hx] at hli;simp only[lineV,rfV] at hli;refine⟨trivial,(CallsIn.inRound l (callsIn_wide.2 (hli _ h3.chg))).mono ?_⟩;rintro e w3 ⟨rfl,c3⟩;obtain⟨R,hR⟩:∃R,w3.heap.size=R:=⟨_,rfl⟩;obtain⟨w4,hw4⟩:∃w4,w4=w3.alloc (.cells #[.bool r.tag,.string (str r.name),.string (str r.key)] 42):=⟨_,rfl⟩;obtain⟨w5,hw5⟩:∃w5,w5=w4.alloc (.cells #[.bool r.tag,.string (str r.name),.string (str r.key)] 42):=⟨_,rfl⟩;have c34:Chg [] w3 w4:=by rw[hw4];exact (Chg.refl [] w3).alloc _
   have c45:Chg [] w4 w5:=by rw[hw5];exact (Chg.refl [] w4).alloc _
   have bR:Blk w4 R #[.bool r.tag,.string (str r.name),.string (str r.key)] 42:=by rw[hw4];exact Blk.new_at w3 _ _ hR
   have bN:Blk w5 (R+1) #[.bool r.tag,.string (str r.name),.string (str r.key)] 42:=by rw[hw5];exact Blk.new_at w4 _ _ (by rw[hw4];simp[hR])
   obtain⟨ao7,cp7,rfl,-⟩:=h3.shape;have b7:=(h7.chg0 c3).chg0 c34;have x7:=b7.cell 0;have y0:=bR.cell 0;have y1:=bR.cell 1;have y2:=bR.cell 2;have c35:=(c3.nil c34).nil c45;have hF5:=h3.to c35;have b75:=b7.chg0 c45;have hne:=Own.ne hF5.own b75 (by decide);have HW:=zH (And.intro h1 (And.intro h2 (And.intro h3 (And.intro h4 (And.intro h5 (And.intro h6 (And.intro h7 (And.intro c35 (And.intro hx (And.intro hsn (And.intro hlen (And.intro b75 (And.intro hne h8)))))))))))));have hal:acc.length≤1000000000:=by omega
   have hown5:=hF5.own;have hsn5:Sees w5 3 (.slice (some ⟨R+1,0,none⟩) 1 1) 1 [.bool r.tag,.string (str r.name),.string (str r.key)]:=Sees.blk bN;simp only[List.getElem?_toArray,List.getElem?_cons_zero,List.getElem?_cons_succ] at x7 y0 y1 y2;rw[hw4] at x7 y0 y1 y2 hw5;rw[hw5] at hown5 hsn5;clear h1 h2 h3 h4 h5 h6 h7 hlen hsn hx hli c3 c34 c45 bR bN b7 c35 hF5 b75 hne
   gi_wp2_with (gi_at_builtin;refine wpListIn_app rfl _ _ 29 rfl sl_ref (by exact hown5) rfl (by exact hsn5) rfl (by simp[Value.oneCell']) (by omega) (by omega) ?_;intro v6 w6 hO6 c6 n6;obtain⟨ao6,cp6,rfl,-,-⟩:=hO6.sees.shape;have b76:=(HW.out.2.2.2.2.2.2.2.2.2.2.2.1).chg (hw5▸c6) HW.out.2.2.2.2.2.2.2.2.2.2.2.2.1;have z7:=b76.cell 0;have g7:=b76.frozen 0)
   obtain⟨h1,h2,h3,h4,h5,h6,h7,c35,hx,hsn,hlen,b75,hne,h8⟩:=HW.out;have c6':Chg (Value.slice ao7 acc.length cp7).ownBlock.toList w5 w6:=by rw[hw5];exact c6
   have n6':∀k∈(Value.slice ao6 (acc.length+1) cp6).ownBlock.toList,k∈(Value.slice ao7 acc.length cp7).ownBlock.toList∨w5.heap.size≤k:=by rw[hw5];exact n6
   clear c6 n6 z7 g7;have hF6:=(h3.to c35).app hO6 c6' n6';have hK5:=b75.lt;have hB5:B<w5.heap.size:=Nat.lt_of_lt_of_le h8 c35.size;have hK6:K+1+1∉(Value.slice ao6 (acc.length+1) cp6).ownBlock.toList:=fun hk=>by
    rcases n6' _ hk with h | h
    ·exact hne h
    ·omega
   have hB6:B∉(Value.slice ao6 (acc.length+1) cp6).ownBlock.toList:=fun hk=>by
    rcases n6' _ hk with h | h
    ·exact h4 h
    ·omega
   have cS:Chg ((K+1+1)::(Value.slice ao7 acc.length cp7).ownBlock.toList) W (w6.setCell ⟨K+1+1,0,none⟩ (.slice ao6 (acc.length+1) cp6)):=
    (((Chg.refl _ W).trans c35 (by simp)).trans c6' (fun k hk=>.inl (List.mem_cons_of_mem _ hk))).setCell (.inl (by simp)) _
   refine⟨keeps_of_chg cS fun k hk=>?_,cS.block B h8 ?_,acc++[r],.slice ao6 (acc.length+1) cp6,by rw[hsn,hx];rfl,?_,?_,hB6,h5.chg cS ?_,h6.chg cS ?_,b76.set 0 _,Nat.lt_of_lt_of_le h8 cS.size⟩
   ·rcases List.mem_cons.1 hk with rfl | hk
    ·exact blk_cells h7
    ·obtain⟨cs,hcs⟩:=own_cellsR h3.own hk;exact blk_cells hcs
   ·intro hk;rcases List.mem_cons.1 hk with h | h
    ·omega
    ·exact h4 h
   ·intro q hq;rcases List.mem_append.1 hq with hq | hq
    ·exact h2 q hq
    ·have hl:=lineW_len (hx:lineW (trimN x)=some r);have ht:=trimN_len x;rw[List.mem_singleton.1 hq];omega
   ·have e1:(acc++[r]).length=acc.length+1:=by simp
    have e2:Rfs (acc++[r])=Rfs acc++[.bool r.tag,.string (str r.name),.string (str r.key)]:=by simp[Rfs,rfCells]
    rw[e1,e2];exact⟨hF6.own.set_ne hK6 _,hF6.chg.setCell (.inr (by show w.heap.size≤K+1+1;omega)) _,hF6.new⟩
   ·intro hk;rcases List.mem_cons.1 hk with h | h
    ·omega
    ·exact Own.ne h3.own h5 (by decide) h
   ·intro hk;rcases List.mem_cons.1 hk with h | h
    ·omega
    ·exact Own.ne h3.own h6 (by decide) h
 case done=>
  rintro D xs W hD rfl hI hmark;obtain⟨acc,vv,h1,h2,h3,h4,h5,h6,h7,h8⟩:=hI;have hal:=readL_len _ acc h1;have hll:=linesL_len b.length b (Nat.le_refl _);have hen:=encode_any W (hT.chg h3.chg) vv acc h3.own.sees (by omega) (fun r hr=>by have:=h2 r hr;omega);obtain⟨ao7,cp7,rfl,-⟩:=h3.shape;have x7:=h7.cell 0;simp only[List.getElem?_toArray,List.getElem?_cons_zero] at x7;clear hb2 hb3 hb4;have hvW:=hv.chg0 h3.chg;have hDl:D<W.heap.size:=(Array.getElem?_eq_some_iff.1 hmark).1;have HI:=zF h1 h3 h5 h6 h7 hmark hDl;clear h1 h2 h3 h4 h5 h6 h7 h8 hmark hv2 hbB cw2 HS hDl hal hll
  gi_wp2
  refine⟨trivial,(callsIn_wide.2 hen).mono ?_⟩;rintro e w3 ⟨v3,rfl,hs3,-,c3⟩;obtain⟨a3,q3,rfl,-,-⟩:=hs3.shape;have r1:=run_str8 hs3;have r2:=run_str8 (hvW.chg0 c3);obtain⟨h1,h3,h5,h6,h7,hmark,hDl⟩:=HI.out;have hdec:decL b=if encodeL acc=(b,0) then (acc,0) else ([],4):=by unfold decL;rw[h1]
  have b5:=h5.chg0 c3;have b6:=h6.chg0 c3;have b7:=h7.chg0 c3;have x5:=b5.cell 0;have x6:=b6.cell 0;have x7:=b7.cell 0;have f5:=b5.frozen 0;have f6:=b6.frozen 0;have hm3:w3.heap[D]?=some (.deferred (some [])):=(c3.block D hDl (by simp)).trans hmark;simp only[List.getElem?_toArray,List.getElem?_cons_zero] at x5 x6 x7;obtain⟨eb,heb⟩:∃q,(encodeL acc).1=q:=⟨_,rfl⟩;obtain⟨er,her⟩:∃q,(encodeL acc).2=q:=⟨_,rfl⟩;have hee:encodeL acc=(eb,er):=by rw[←heb,←her]
  rw[heb] at r1;rw[hee] at hdec;have HF:=zG hdec b5 b6 b7 hm3 h3 c3 hD;rw[heb] at hs3;rw[heb,her];clear hdec b5 b6 b7 hm3 h1 h3 h5 h6 h7 hmark hDl hen heb her hee HI hs3 hvW c3 hD;by_cases h0:er=0
  ·have t1:(((er:Nat):Int) != 0)=false:=by simp[h0]
   have t1':(er != 0)=false:=by simp[h0]
   by_cases hbb:eb=b
   ·have t2:((str eb).toList != (str b).toList)=false:=by rw[bne,str_eq];simp[hbb]
    have t3:((str eb).toList==(str b).toList)=true:=by rw[str_eq];simp[hbb]
    have HZ:Hid (decL b=(acc,0)):=by show _=_;rw[HF.out.1,if_pos (by rw[hbb,h0])]
    clear h0 hbb
    gi_wp2
    obtain⟨-,b5,b6,b7,hm3,h3,c3,hD⟩:=HF.out;obtain⟨e1,e2,e3,e4⟩:=two_laid (sv:=.slice ao7 acc.length cp7) (ev:=.int .i64 0) b5 b6 hm3;refine⟨by simp,.inl ⟨_,_,rfl,run_takeDeferred e1,_,results_cc rfl _ _ rfl rfl ia ib e2 e3,.slice ao7 acc.length cp7,?_⟩⟩;rw[HZ.out];have own3:=(h3.to c3).own;refine⟨rfl,own3.sees.chg e4 (fun k hk=>?_),(h3.chg.nil c3).trans e4 fun k hk=>by simp at hk;right;omega⟩;have hk':=eyes_own _ k hk;intro hm;simp only[List.mem_cons,List.not_mem_nil,or_false] at hm;rcases hm with rfl | rfl | rfl
    ·exact Own.ne own3 b5 (by decide) hk'
    ·exact Own.ne own3 b6 (by decide) hk'
    ·exact own_no_putR own3 ⟨_,hm3,rfl⟩ hk'
   ·have t2:((str eb).toList != (str b).toList)=true:=by rw[bne,str_eq];simp[hbb]
    have t3:((str eb).toList==(str b).toList)=false:=by rw[str_eq];simp[hbb]
    have HZ:Hid (decL b=([],4)):=by show _=_;rw[HF.out.1,if_neg (fun e=>hbb (congrArg Prod.fst e))]
    clear h0 hbb
    gi_wp2
    obtain⟨-,b5,b6,b7,hm3,h3,c3,hD⟩:=HF.out;obtain⟨e1,e2,e3,e4⟩:=two_laid (sv:=.slice none 0 0) (ev:=.int .i64 4) b5 b6 hm3;refine⟨by simp,.inl ⟨_,_,rfl,run_takeDeferred e1,_,results_cc rfl _ _ rfl rfl ia ib e2 e3,.slice none 0 0,?_⟩⟩;rw[HZ.out];exact⟨rfl,Sees.nil _ _,(h3.chg.nil c3).trans e4 fun k hk=>by simp at hk;right;omega⟩
  ·have t1:(((er:Nat):Int) != 0)=true:=by simp;omega
   have t1':(er != 0)=true:=by simp;omega
   have HZ:Hid (decL b=([],4)):=by show _=_;rw[HF.out.1,if_neg (fun e=>h0 (congrArg Prod.snd e))]
   clear h0
   gi_wp2
   obtain⟨-,b5,b6,b7,hm3,h3,c3,hD⟩:=HF.out;obtain⟨e1,e2,e3,e4⟩:=two_laid (sv:=.slice none 0 0) (ev:=.int .i64 4) b5 b6 hm3;refine⟨by simp,.inl ⟨_,_,rfl,run_takeDeferred e1,_,results_cc rfl _ _ rfl rfl ia ib e2 e3,.slice none 0 0,?_⟩⟩;rw[HZ.out];exact⟨rfl,Sees.nil _ _,(h3.chg.nil c3).trans e4 fun k hk=>by simp at hk;right;omega⟩
 case stop=>
  rintro D pre rest W hD hS hX hmark;obtain⟨⟨p,x,rfl,hx⟩,h5,h6,hcW⟩:=hX;have HZ:Hid (decL b=([],4)):=by
   show _=_;unfold decL;rw[←hS,List.append_assoc,List.singleton_append,readL_bad hx]
  have HI:=zC h5 h6 hcW hmark;clear hb2 hb3 hb4 hv2 hbB HS cw2 hS hx h5 h6 hcW hmark
  gi_wp2
  obtain⟨h5,h6,hcW,hmark⟩:=HI.out;have n1:K≠D:=by omega
  have n2:K+1≠D:=by omega
  have cP:=chg_putR W D (.deferred none);refine⟨by simp,.inl ⟨_,_,rfl,run_takeDeferred hmark,_,results_cc rfl _ _ rfl rfl ia ib ((h5.chg cP (by simpa using n1)).cell 0) ((h6.chg cP (by simpa using n2)).cell 0),.slice none 0 0,?_⟩⟩;rw[HZ.out];exact⟨rfl,Sees.nil _ _,hcW.trans cP fun k hk=>by simp at hk;right;omega⟩
end Go.Proofs.YtlbdklaggalgfaaGreatDoor
