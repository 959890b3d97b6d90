/- FzG FzH FzI -/
import Derived.Test.YtlidiclfpklliaaGreatDoorG23
import Derived.Test.YtlidiclfpklliaaGreatDoorFzD
import Derived.Test.YtlidiclfpklliaaGreatDoorFzC
set_option linter.unusedSimpArgs false
set_option linter.unusedVariables false
set_option maxHeartbeats 4000000
namespace Go.Aq
open Go.RowKit
theorem chg_put (W:World) (l:Nat) (o:Obj):Chg [l] W (W.putObj l o):=
 ⟨rfl,rfl,rfl,by simp,fun i _ hi=>World.putObj_heap_other (by simpa using hi)⟩
theorem own_cells {W:World} {e:TypeId} {size n:Nat} {v:Value} {xs:List Value} (h:Own W e size v n xs) {k:Nat} (hk:k∈v.ownBlock.toList):∃cs,W.heap[k]?=some (.cells cs e (0,0)):=by
 rcases h.2 with ⟨rfl,_⟩ | ⟨g,cap,cur,rfl,_,h2,_⟩
 ·simp[Value.ownBlock] at hk
 ·simp[Value.ownBlock] at hk
  subst hk
  exact⟨cur,h2⟩
theorem own_no_put {W:World} {e:TypeId} {size n:Nat} {v:Value} {xs:List Value} (h:Own W e size v n xs) {l:Nat} (hl:∃o0:Obj,W.heap[l]?=some o0∧o0.isCells=false):l∉v.ownBlock.toList:=fun hk=>by
 obtain⟨cs,hb⟩:=own_cells h hk
 obtain⟨o0,h1,h2⟩:=hl
 have:=h1.symm.trans hb
 cases this
 cases h2
theorem blk_no_put {W:World} {k:Nat} {cs:Array Value} {e:TypeId} (h:Blk W k cs e) {l:Nat} (hl:∃o0:Obj,W.heap[l]?=some o0∧o0.isCells=false):k≠l:=by
 rintro rfl
 obtain⟨o0,h1,h2⟩:=hl
 have:=h1.symm.trans h
 cases this
 cases h2
end Go.Aq
namespace Go.Proofs.YtlidiclfpklliaaGreatDoor
open Go.RowKit Go.Shelf Go.Aq Go.Aq.Fy Go.Maps
attribute [local go_sem] Oper.semAt_some
theorem sl_rows:SliceTy Tryz.prog 23 36 (.slice none 0 0) 1 24:=⟨Tryz.underlying23,by kernel_rfl,rfl,by decide⟩
def pieces (g:Nat) (l:List Nat):List Value:=l.map (pieceV g)
def AppI (w0:World) (K g:Nat) (pre:List Nat) (W:World):Prop:=
 ∃v,Fresh w0 W 36 1 v pre.length (pieces g pre)∧Blk W K #[v] 23∧w0.heap.size≤K
theorem AppI.step {w0 W W':World} {K g l:Nat} {pre:List Nat} (h:AppI w0 K g pre W) (c:Chg [l] W W') (ho:∃o0:Obj,W.heap[l]?=some o0∧o0.isCells=false) (hl:w0.heap.size≤l):AppI w0 K g pre W':=by
 obtain⟨v,h1,h2,h3⟩:=h
 have hn:=own_no_put h1.own ho
 exact⟨v,⟨h1.own.chg c (fun k hk hk'=>by simp at hk';subst hk';exact hn hk),h1.chg.trans c (fun k hk=>.inr (by simp at hk;omega)),h1.new⟩,h2.chg c (by have:=blk_no_put h2 ho;simpa using this),h3⟩
theorem AppI.nil {w0 W W':World} {K g:Nat} {pre:List Nat} (h:AppI w0 K g pre W) (c:Chg [] W W'):AppI w0 K g pre W':=by
 obtain⟨v,h1,h2,h3⟩:=h
 exact⟨v,h1.to c,h2.chg0 c,h3⟩
set_option maxRecDepth 100000 in
theorem appendSeq_ok (w:World) (g m cap B1 B2:Nat) (hb1:Blk w B1 #[.slice (some ⟨g,0,none⟩) (256 * m) cap] 36) (hb2:Blk w B2 #[.int .i64 256] 3) (hm:m≤4096) (hcap:256 * m≤cap):
  Calls Tryz.prog 196 #[.slice none 0 0,.func (.func 197) #[] #[.pointer (some ⟨B1,0,none⟩),.pointer (some ⟨B2,0,none⟩)]] w fun e w'=>∃v,e=.returned v∧Fresh w w' 36 1 v m (pieces g (List.range m)):=by
 obtain⟨K,hK⟩:∃K,w.heap.size=K:=⟨_,rfl⟩
 obtain⟨w1,hw1⟩:∃w1,w1=w.alloc (.cells #[.slice none 0 0] 23):=⟨_,rfl⟩
 have hc1:Chg [] w w1:=by rw[hw1];exact (Chg.refl [] w).alloc _
 have hbK:Blk w1 K #[.slice none 0 0] 23:=by rw[hw1];exact Blk.new_at w _ _ hK
 have HB:=zE hc1 hbK (hb1.chg0 hc1) (hb2.chg0 hc1) hb1.lt hb2.lt
 clear hb1 hb2 hc1 hbK
 refine callsIn_wide.1 (callsIn_of_wp_marks (n:=8) Tryz.func196 rfl trivial ?_ rfl)
 simp only[Tryz.ntmps196,List.size_toArray,List.length_cons,List.length_nil,Nat.reduceAdd,Nat.reduceSub,Array.replicate_succ,Array.replicate_zero,List.push_toArray,List.append_toArray,List.nil_append,List.cons_append]
 gi_wp2
 rw[←hw1]
 clear hw1
 obtain⟨hc1,hbK,hb1,hb2,hl1,hl2⟩:=HB.out
 have hc0:=hc1.size
 refine range_cells (by decide) (gf:=197) (Bs:=[B1,B2]) (lb:=#[.pointer (some ⟨B1,0,none⟩),.pointer (some ⟨B2,0,none⟩)]) rfl (enters_of Tryz.func197 (by kernel_rfl) rfl) (chunk_seq g m cap hm hcap 7 (by decide) B1 B2)
  (fun o o'=>⟨(hb1.alloc o).alloc o',(hb2.alloc o).alloc o'⟩) (fun B hB=>by simp at hB;have:=hc1.size;rcases hB with rfl | rfl <;> omega) (AppI w K g)
  (fun pre W o h=>h.nil ((Chg.refl [] W).alloc o))
  (fun pre W l o hl ho h=>h.step (chg_put W l o) ho (by have:=hc1.size;omega))
  (fun pre W h=>h.nil (Chg.refl [] W).drew)
  ⟨.slice none 0 0,(Fresh.nil w _ _).to hc1,hbK,Nat.le_of_eq hK⟩
  (fun i=>{ tmps:=#[.slice none 0 0,.func (.func 197) #[] #[.pointer (some ⟨B1,0,none⟩),.pointer (some ⟨B2,0,none⟩)],.pointer (some ⟨K,0,none⟩),undef,.slice none 0 0,pieceV g i,.func (.func 197) #[] #[.pointer (some ⟨B1,0,none⟩),.pointer (some ⟨B2,0,none⟩)],pieceV g i,undef,undef,undef,undef,undef],defers:=[] }) ?assign ?body ?done
 case assign=>
  intro l x W Kx hKx
  simp only[List.setIfInBounds_toArray,List.set_cons_zero,List.set_cons_succ]
  gi_wp2
  exact hKx
 case body=>
  intro l pre x W hG hI
  clear hbK hb1 hb2 hc1 HB
  obtain⟨v,h1,h2,h3⟩:=hI
  obtain⟨p,hp⟩:∃p,pre.length=p:=⟨_,rfl⟩
  have hpx:p<m:=by rw[←hp,hG.1,List.length_range];exact hG.2
  rw[hp] at h1
  obtain⟨ao,cp,rfl,-⟩:=h1.shape
  obtain⟨px,hpx'⟩:∃px,256 * x=px:=⟨_,rfl⟩
  have hpv:pieceV g x=.slice (some ⟨g,px,none⟩) 256 256:=by rw[←hpx'];rfl
  have hp1:(Value.slice (some ⟨g,px,none⟩) 256 256).oneCell'=true:=rfl
  rw[hpv]
  clear hpx'
  have x0:=h2.cell 0
  obtain⟨R,hR⟩:∃R,W.heap.size=R:=⟨_,rfl⟩
  obtain⟨w5,hw5⟩:∃w5,w5=W.alloc (.cells #[.slice (some ⟨g,px,none⟩) 256 256] 36):=⟨_,rfl⟩
  have c5:Chg [] W w5:=by rw[hw5];exact (Chg.refl [] W).alloc _
  have bN:Blk w5 R #[.slice (some ⟨g,px,none⟩) 256 256] 36:=by rw[hw5];exact Blk.new_at W _ _ hR
  have hF5:=h1.to c5
  have b25:=h2.chg0 c5
  have hne:=Own.ne hF5.own b25 (by decide)
  have hown5:=hF5.own
  have hsn5:Sees w5 1 (.slice (some ⟨R,0,none⟩) 1 1) 1 [.slice (some ⟨g,px,none⟩) 256 256]:=Sees.blk bN
  have HW:=zH (And.intro h1 (And.intro h2 (And.intro h3 (And.intro hG (And.intro hp (And.intro hpv (And.intro c5 (And.intro b25 (And.intro hne (And.intro hpx hF5))))))))))
  have hpm:p≤4096:=by omega
  rw[hw5] at hown5 hsn5
  rw[←hR] at hsn5
  simp only[List.getElem?_toArray,List.getElem?_cons_zero] at x0
  clear h1 h2 h3 hG hp hpv c5 bN hF5 b25 hne hR hpx
  gi_wp2_with (gi_at_builtin;refine wpListIn_app rfl _ _ 23 rfl sl_rows (by exact hown5) rfl (by exact hsn5) rfl (by simpa using hp1) (by omega) (by omega) ?_;intro v6 w6 hO6 c6 n6;obtain⟨ao6,cp6,rfl,-,-⟩:=hO6.sees.shape;have b26:=(HW.out.2.2.2.2.2.2.2.1).chg (hw5▸c6) HW.out.2.2.2.2.2.2.2.2.1;have z2:=b26.cell 0;have g2:=b26.frozen 0)
  obtain⟨h1,h2,h3,hG,hp,hpv,c5,b25,hne,hpx,hF5⟩:=HW.out
  have c6':Chg (Value.slice ao p cp).ownBlock.toList w5 w6:=by rw[hw5];exact c6
  have n6':∀k∈(Value.slice ao6 (p+1) cp6).ownBlock.toList,k∈(Value.slice ao p cp).ownBlock.toList∨w5.heap.size≤k:=by rw[hw5];exact n6
  clear c6 n6 z2 g2
  have hF6:=hF5.app hO6 c6' n6'
  have hK5:=b25.lt
  have hK6:K∉(Value.slice ao6 (p+1) cp6).ownBlock.toList:=fun hk=>by
   rcases n6' _ hk with h | h
   ·exact hne h
   ·omega
  have cS:Chg (K::(Value.slice ao p cp).ownBlock.toList) W (w6.setCell ⟨K,0,none⟩ (.slice ao6 (p+1) cp6)):=
   (((Chg.refl _ W).trans c5 (by simp)).trans c6' (fun k hk=>.inl (List.mem_cons_of_mem _ hk))).setCell (.inl (by simp)) _
  have hcw:=h1.chg.size
  have hBl:∀B∈[B1,B2],B<W.heap.size∧B∉K::(Value.slice ao p cp).ownBlock.toList:=fun B hB=>by
   have hBw:B<w.heap.size:=by simp at hB;rcases hB with rfl | rfl <;> assumption
   refine⟨by omega,fun hh=>?_⟩
   rcases List.mem_cons.1 hh with h | h
   ·omega
   ·have:=h1.new B h;omega
  refine⟨keeps_of_chg cS fun k hk=>?_,fun B hB=>cS.block B (hBl B hB).1 (hBl B hB).2,.slice ao6 (p+1) cp6,?_,b26.set 0 _,h3⟩
  ·rcases List.mem_cons.1 hk with rfl | hk
   ·exact⟨_,h2,rfl⟩
   ·obtain⟨cs,hcs⟩:=own_cells h1.own hk
    exact⟨_,hcs,rfl⟩
  ·have e1:(pre++[x]).length=p+1:=by simp[hp]
   have e2:pieces g (pre++[x])=pieces g pre++[.slice (some ⟨g,px,none⟩) 256 256]:=by simp[pieces,hpv]
   rw[e1,e2]
   exact⟨hF6.own.set_ne hK6 _,hF6.chg.setCell (.inr h3) _,hF6.new⟩
 case done=>
  rintro D xs W hD rfl hI hmark
  obtain⟨v,h1,h2,h3⟩:=hI
  rw[List.length_range] at h1
  obtain⟨ao,cp,rfl,-⟩:=h1.shape
  have x0:=h2.cell 0
  simp only[List.getElem?_toArray,List.getElem?_cons_zero] at x0
  have HI:=zD h1 h2 h3 hmark hD
  clear hbK hb1 hb2 hc1 HB h1 h2 h3 hmark hD
  gi_wp2
  obtain⟨h1,h2,h3,hmark,hD⟩:=HI.out
  refine⟨by simp,.inl ⟨_,_,rfl,run_takeDeferred hmark,_,results_tmp rfl _ _ _,.slice ao m cp,rfl,?_⟩⟩
  have hn:=own_no_put h1.own ⟨_,hmark,rfl⟩
  have c:=chg_put W D (.deferred none)
  exact⟨h1.own.chg c (fun k hk hk'=>by simp at hk';subst hk';exact hn hk),h1.chg.trans c (fun k hk=>.inr (by simp at hk;subst hk;have:=hc0;omega)),h1.new⟩
end Go.Proofs.YtlidiclfpklliaaGreatDoor
namespace Go.Aq
theorem Sees.recap {w:World} {a:Addr} {n cap cap':Nat} {xs:List Value} (h:Sees w 1 (.slice (some a) n cap) n xs) (hc:n≤cap'):Sees w 1 (.slice (some a) n cap') n xs:=by
 obtain⟨h1,ao',c',h2,h3,h4,h5⟩:=h
 simp only[Value.slice.injEq,true_and] at h2
 obtain⟨rfl,rfl⟩:=h2
 exact⟨h1,_,_,rfl,hc,by simp,h5⟩
end Go.Aq
namespace Go.Proofs.YtlidiclfpklliaaGreatDoor
open Go.RowKit Go.Aq Go.Aq.Fy Go.Maps
set_option maxRecDepth 100000 in
theorem chunk_ok (w:World) (v:Value) (hv:v.oneCell'=true) (hs:∃ao n cap,v=.slice ao n cap):
  Calls Tryz.prog 133 #[v,.int .i64 256] w fun e w'=>∃B1 B2,e=.returned (.func (.func 197) #[] #[.pointer (some ⟨B1,0,none⟩),.pointer (some ⟨B2,0,none⟩)])∧Blk w' B1 #[v] 36∧Blk w' B2 #[.int .i64 256] 3∧Chg [] w w':=by
 obtain⟨ao,n,cap,rfl⟩:=hs
 go_enter Tryz.func133,Tryz.ntmps133
 go_wp2_with fail
 go_ret
 exact⟨_,_,rfl,(Blk.new _ _ _).alloc _,Blk.new_at _ _ _ (by simp),((Chg.refl [] _).alloc _).alloc _⟩
set_option maxRecDepth 100000 in
theorem collect_ok (w:World) (g m cap B1 B2:Nat) (hb1:Blk w B1 #[.slice (some ⟨g,0,none⟩) (256 * m) cap] 36) (hb2:Blk w B2 #[.int .i64 256] 3) (hm:m≤4096) (hcap:256 * m≤cap):
  Calls Tryz.prog 132 #[.func (.func 197) #[] #[.pointer (some ⟨B1,0,none⟩),.pointer (some ⟨B2,0,none⟩)]] w fun e w'=>∃v,e=.returned v∧Fresh w w' 36 1 v m (pieces g (List.range m)):=by
 have ha:=appendSeq_ok w g m cap B1 B2 hb1 hb2 hm hcap
 clear hb1 hb2 hm hcap
 go_enter Tryz.func132,Tryz.ntmps132
 go_wp2_with fail
 refine ha.mono ?_
 rintro e w1 ⟨v,rfl,hF⟩
 go_wp2_with fail
 go_ret
 exact⟨v,rfl,hF⟩
def SectEnd (w:World) (mt:Nat) (L:Files) (e:Ending) (w':World):Prop:=
 Chg [] w w'∧((mt * 256<(tableB L).length∧e=.returned (.slice none 0 0))∨
  ((tableB L).length≤mt * 256∧∃ao cap g c,e=.returned (.slice (some ao) mt cap)∧Go.Aq.Own w' 36 1 (.slice (some ao) mt cap) mt (pieces g (List.range mt))∧w.heap.size≤ao.block∧w.heap.size≤g∧
   Sees w' 1 (.slice (some ⟨g,0,none⟩) (256 * mt) c) (256 * mt) (Bs (tableB L++nul (mt * 256 - (tableB L).length)))))
theorem sect_num {q mt:Nat} (h:q≤mt * 256) (h4:mt≤200):q+(mt * 256 - q)=256 * mt∧(q+(mt * 256 - q)) * 1≤140737488355328∧q+(mt * 256 - q)≤9223372036854775807:=by omega
theorem sect_wrap {mt q:Nat} (h4:mt≤200):wrap64 ((mt:Int) * 256)=((mt * 256:Nat):Int)∧(q≤mt * 256→wrap64 (((mt * 256:Nat):Int) - (q:Int))=((mt * 256 - q:Nat):Int)):=by
 unfold wrap64
 constructor
 ·omega
 ·intro h;omega
set_option maxRecDepth 100000 in
theorem sectors_ok' (w:World) (f mt:Nat) (c0 c1 c3:Value) (hblk:Blk w f #[c0,c1,.int .i64 mt,c3] 113) (h1:1≤mt) (h4:mt≤200) (S:List Nat) (b:Nat) (L:Files) (h:FilesR w S b L) (hn:L.length≤400) (hL:∀p∈L,p.1.length≤255∧p.2.blocks.length≤4096) (hz:∀p∈L,p.2.size<4294967296∧∀k∈p.2.blocks,k<65536):
  Calls Tryz.prog 62 #[.pointer (some ⟨f,0,none⟩),.map (some b)] w (SectEnd w mt L):=by
 have htb:=table_ok w S b L h hn hL hz
 have hlen:2≤(tableB L).length∧(tableB L).length≤4000000:=by
  have h1:=tabB_bound hL L.length (Nat.le_refl _)
  rw[tabB_all] at h1
  refine⟨?_,by omega⟩
  unfold tableB
  rw[List.length_append,beB_length]
  omega
 obtain⟨T,hT⟩:∃T,tableB L=T:=⟨_,rfl⟩
 obtain⟨q,hq⟩:∃q,T.length=q:=⟨_,rfl⟩
 rw[hT,hq] at htb hlen
 have x2:w.cell? ⟨f,2,none⟩=some (.int .i64 mt):=hblk.cell 2
 obtain⟨e1,e2⟩:=sect_wrap (q:=q) h4
 obtain⟨M,hM⟩:∃M,mt * 256=M:=⟨_,rfl⟩
 have hnum:=fun hh=>sect_num (q:=q) (mt:=mt) hh h4
 rw[hM] at e1 e2 hnum
 have e1w:=wIq e1
 have HH:=zG hT hq hM h1 h4 hlen hnum e2
 clear h hn hL hz hblk hT hq hM h1 h4 hlen hnum e2
 go_enter Tryz.func62,Tryz.ntmps62
 go_wp2_with fail
 refine htb.mono ?_
 rintro e w1 ⟨v,rfl,hF1⟩
 obtain⟨av,cv,rfl,-⟩:=hF1.shape
 replace x2:=hF1.chg.cell_some x2 (by simp)
 clear htb
 by_cases hfit:q≤M
 ·have t1:decide ((M:Int)<(q:Int))=false:=by simp;omega
  have t1':decide (M<q)=false:=by simp;omega
  obtain⟨n1,n2,n3⟩:=HH.out.2.2.2.2.2.2.1 hfit
  have e2:=HH.out.2.2.2.2.2.2.2 hfit
  obtain⟨z,hz⟩:∃z,M - q=z:=⟨_,rfl⟩
  rw[hz] at n1 n2 n3 e2
  have e2w:=wIq e2
  have HZ:=zB hfit hz n1
  have hq0:z=0∨0<q:=by have:=HH.out.2.2.2.2.2.1.1;omega
  clear hfit hz n1
  go_wp2_with (first
   | (at_builtin;refine wpList_appZ' rfl _ _ 36 3 rfl sl_u8y rfl rfl Tryz.underlying3 hF1 rfl rfl rfl hq0 n2 n3 ?_;intro v2 w2 hF2 c2)
   | fail)
  have hF2':Fresh w w2 5 1 v2 (256 * mt) (Bs (T++nul z)):=by
   have h1:=hF2
   rw[HZ.out.2.2] at h1
   have h2:Bs T++List.replicate z (.int .u8 0)=Bs (T++nul z):=by simp[Bs,nul,Bc]
   rw[h2] at h1
   exact h1
  obtain⟨g,cap,rfl,hcap⟩:=hF2'.own.pos (by have:=HH.out.2.2.2.1;omega)
  have H2:=zA hF2' hcap
  clear hF2 c2 hF2' hcap hF1
  refine (chunk_ok w2 _ rfl ⟨_,_,_,rfl⟩).mono ?_
  rintro e w3 ⟨B1,B2,rfl,hb1,hb2,c3⟩
  have hcl:=collect_ok w3 g mt cap B1 B2 hb1 hb2 (by have:=HH.out.2.2.2.2.1;omega) H2.out.2.1
  clear hb1 hb2
  go_wp2_with fail
  refine hcl.mono ?_
  rintro e w4 ⟨v4,rfl,hF4⟩
  obtain⟨g4,cap4,rfl,-⟩:=hF4.own.pos (by have:=HH.out.2.2.2.1;omega)
  have H4:=zA c3 hF4
  clear hcl c3 hF4
  go_wp2_with fail
  go_ret
  have cw:Chg [] w w4:=(H2.out.1.chg.nil H4.out.1).nil H4.out.2.chg
  refine⟨cw,.inr ⟨?_,⟨g4,0,none⟩,cap4,g,cap,rfl,H4.out.2.own,?_,?_,?_⟩⟩
  ·rw[HH.out.1,HH.out.2.1,HH.out.2.2.1];exact HZ.out.1
  ·have h1:=H4.out.2.new g4 (by simp[Value.ownBlock])
   have h2:=(H2.out.1.chg.nil H4.out.1).size
   show w.heap.size≤g4
   omega
  ·exact H2.out.1.new g (by simp[Value.ownBlock])
  ·rw[HH.out.1,HH.out.2.1,HH.out.2.2.1,HZ.out.2.1]
   exact H2.out.1.own.sees.chg0 (H4.out.1.nil H4.out.2.chg)
 ·have t1:decide ((M:Int)<(q:Int))=true:=by simp;omega
  have t1':decide (M<q)=true:=by simp;omega
  have HZ:=zH hfit
  have HF:=zH hF1
  clear hfit hF1
  go_wp2_with fail
  go_ret
  refine⟨HF.out.chg,.inl ⟨?_,rfl⟩⟩
  rw[HH.out.1,HH.out.2.1,HH.out.2.2.1]
  exact Nat.not_le.1 HZ.out
end Go.Proofs.YtlidiclfpklliaaGreatDoor
namespace Go.Aq.Fy
open Go.Aq
def difT (b m:Nat) (L L':Files) (i:Nat):Puts:=((List.range i).filter fun j=>pieceT m L j≠pieceT m L' j).map fun j=>(b+j,pieceT m L' j)
theorem difT_succ (b m:Nat) (L L':Files) (i:Nat):difT b m L L' (i+1)=difT b m L L' i++if pieceT m L i=pieceT m L' i then [] else [(b+i,pieceT m L' i)]:=by
 unfold difT
 rw[List.range_succ,List.filter_append,List.map_append]
 by_cases h:pieceT m L i=pieceT m L' i <;> simp[h]
theorem difT_all {b m:Nat} {L L':Files} (h:(tableB L).length≤m * 256) (h':(tableB L').length≤m * 256):difT b m L L' m=differB b (sectorsB m L) (sectorsB m L'):=by
 unfold difT differB
 rw[sectors_len h]
 have e1:∀j∈List.range m,(decide (pieceT m L j≠pieceT m L' j))=decide ((sectorsB m L).getD j []≠(sectorsB m L').getD j []):=fun j hj=>by
  rw[sectors_get h (List.mem_range.1 hj),sectors_get h' (List.mem_range.1 hj)]
 rw[List.filter_congr e1]
 refine List.map_congr_left fun j hj=>?_
 rw[sectors_get h' (List.mem_range.1 (List.mem_filter.1 hj).1)]
theorem difT_len (b m:Nat) (L L':Files) (i:Nat):(difT b m L L' i).length≤i:=by
 unfold difT
 rw[List.length_map]
 exact Nat.le_trans (List.length_filter_le _ _) (by simp)
theorem lin5 {i k m:Nat} (h:i+k=m) (hi:i<m):i+1+(k - 1)=m∧k - 1<k:=by omega
theorem lin6 {p i m:Nat} (h:p≤i) (hi:i<m) (hm:m≤200):(p+1) * 32≤140737488355328∧p+1≤9223372036854775807:=by omega
end Go.Aq.Fy
namespace Go.Proofs.YtlidiclfpklliaaGreatDoor
open Go.RowKit Go.Aq Go.Aq.Fy Go.Maps
theorem piece_sees {w:World} {g m c:Nat} {L:Files} (h:Sees w 1 (.slice (some ⟨g,0,none⟩) (256 * m) c) (256 * m) (Bs (tableB L++nul (m * 256 - (tableB L).length)))) {i:Nat} (hi:i<m):Sees w 1 (pieceV g i) 256 (Bs (pieceT m L i)):=by
 obtain⟨_,_,_,e,-,h1⟩:=h.part (256 * i) 256 (by decide) (by omega)
 simp only[Value.slice.injEq,Option.some.injEq,Addr.mk.injEq,and_true,true_and] at e
 obtain⟨⟨rfl,rfl⟩,rfl⟩:=e
 rw[Nat.zero_add,←Bs_drop,←Bs_take] at h1
 exact h1.recap (Nat.le_refl _)
set_option maxRecDepth 100000 in
theorem differ_ok (w:World) (Sd X:List Nat) (f d l bf:Nat) (F:FsD) (h:FsR w Sd X f d l bf F) (h1:1≤F.mt) (hn:F.files.length≤400) (hL:∀p∈F.files,p.1.length≤255∧p.2.blocks.length≤4096) (hz:∀p∈F.files,p.2.size<4294967296∧∀k∈p.2.blocks,k<65536) (hfit:(tableB F.files).length≤F.mt * 256)
  (L':Files) (hfit':(tableB L').length≤F.mt * 256) (ao:Addr) (cap g' c':Nat) (hv:Sees w 1 (.slice (some ao) F.mt cap) F.mt (pieces g' (List.range F.mt))) (hb:Sees w 1 (.slice (some ⟨g',0,none⟩) (256 * F.mt) c') (256 * F.mt) (Bs (tableB L'++nul (F.mt * 256 - (tableB L').length)))) (S:List Nat) (hS:g'∉S):
  Calls Tryz.prog 63 #[.pointer (some ⟨f,0,none⟩),.slice (some ao) F.mt cap] w fun e w'=>∃v xs,e=.returned v∧Fresh w w' 199 2 v ((diffF F L')).length xs∧PendR w' (v.ownBlock.toList++S) ((diffF F L')) xs:=by
 obtain⟨⟨c0,c1,c2,c3⟩,-⟩:=Blk.c4b h.blk
 have hsm:=h.small
 have hsec:=sectors_ok' w f F.mt _ _ _ h.blk h1 hsm.2.2.1 _ bf F.files h.files hn hL hz
 have hom:=fun w' (c:Chg [] w w')=>home_ok w' l d F.log (h.log.chg c (by simp)) (by have:=h.small;omega)
 have hgl:g'<w.heap.size:=hb.lt (by decide) g' (by simp[eyes];omega)
 have hdif:=difT_all (b:=homeL F.log+1) hfit hfit'
 obtain⟨m,hm⟩:∃m,F.mt=m:=⟨_,rfl⟩
 have hh4:homeL F.log≤4096:=by have:=h.small;unfold homeL;omega
 obtain⟨b,hb1⟩:∃b,homeL F.log=b:=⟨_,rfl⟩
 rw[hm] at hsec hfit hfit' hv hb h1 hdif c2
 rw[hb1] at hom hdif hh4
 have HH:=zH (And.intro hfit (And.intro hfit' (And.intro hv (And.intro hb (And.intro hS (And.intro hgl (And.intro (show m≤200 by omega) (And.intro h1 (And.intro hh4 (show (diffF F L')=difT (b+1) m F.files L' m by rw[hdif];unfold diffF;rw[hm,hb1]))))))))))
 rw[hm]
 have hfl:=zH h.blk.lt
 generalize F.files=L at *
 clear h h1 hn hL hz hfit hfit' hv hb hsm hgl hdif hm hb1 hS hh4 c0
 go_enter Tryz.func63,Tryz.ntmps63
 go_wp2_with fail
 refine hsec.mono ?_
 rintro e w1 ⟨cw,(⟨hno,-⟩ | ⟨-,ao1,cap1,g,cg,rfl,hO1,hao,hg,hB1⟩)⟩
 ·have:=HH.out.1;omega
 replace c1:=cw.cell_some c1 (by simp)
 have H1:=zD cw hO1 hao hg hB1
 clear hsec hO1 hao hg hB1 c2 c3
 go_wp2_with fail
 go_loopg [5,6,7,15] m (fun k (v5 v6 v7 v15:Value) wr=>∃(i p:Nat) (xs:List Value),v15=.int .i64 i∧wr.cell? ⟨f,1,none⟩=some (.pointer (some ⟨l,0,none⟩))∧Hid (i+k=m∧(difT (b+1) m L L' i).length=p∧Fresh w1 wr 199 2 v5 p xs∧Chg [] w1 wr∧Hid True∧PendR wr (v5.ownBlock.toList++S) (difT (b+1) m L L' i) xs))
 case atStart=>exact⟨0,0,[],rfl,c1,Nat.zero_add _,rfl,Fresh.nil _ _ _,Chg.refl _ _,trivial,.nil⟩
 case round=>
  clear c1
  obtain⟨i,p,xs,rfl,c1,HI⟩:=hrel
  by_cases hi:i<m
  ·have t0:decide ((i:Int)<(m:Int))=true:=by simp;omega
   have t0':decide (i<m)=true:=by simp;omega
   obtain⟨hik,hp,hF,cy,-,hP⟩:=HI.out
   obtain⟨a5,q5,rfl,-⟩:=hF.shape
   have hm2:=HH.out.2.2.2.2.2.2.1
   obtain⟨gx,ox,cx,e,-,hcx⟩:=(H1.out.2.1.sees.chg0 cy).at1 (by omega)
   cases e
   obtain⟨gy,oy,cyy,e,-,hcy⟩:=(HH.out.2.2.1.chg0 (H1.out.1.nil cy)).at1 (by omega)
   cases e
   have z0:=hcx i hi
   have z1:=hcy i hi
   have hpc:∀g,(pieces g (List.range m))[i]?=some (.slice (some ⟨g,256 * i,none⟩) 256 256):=fun g=>by simp[pieces,pieceV,hi]
   rw[hpc] at z0 z1
   have hs1:=piece_sees (H1.out.2.2.2.2.chg0 cy) hi
   have hs2:=piece_sees (HH.out.2.2.2.1.chg0 (H1.out.1.nil cy)) hi
   unfold pieceV at hs1 hs2
   obtain⟨lo,hlo⟩:∃lo,256 * i=lo:=⟨_,rfl⟩
   rw[hlo] at z0 z1 hs1 hs2
   have heq:=equal_any wr _ _ 256 256 _ _ hs1 hs2
   have e2:wrap64 ((i:Int)+1)=((i+1:Nat):Int):=by unfold wrap64;omega
   have e2w:=wIq e2
   have e3:wrap64 ((b:Int)+1)=(b:Int)+1:=by have:=HH.out.2.2.2.2.2.2.2.2.1;unfold wrap64;omega
   have e3w:=wIq e3
   have e4:wrap64 ((b:Int)+1+(i:Int))=(b:Int)+1+(i:Int):=by have:=HH.out.2.2.2.2.2.2.2.2.1;unfold wrap64;omega
   have e4w:=wIq e4
   have hl6:=lin6 (hp▸difT_len (b+1) m L L' i) hi hm2
   have HR:=zF (lin5 hik hi) hp hF cy hP hs2 hlo
   have hh:=hom wr (H1.out.1.nil cy)
   obtain⟨q,hq⟩:∃q,decide (pieceT m L i=pieceT m L' i)=q:=⟨_,rfl⟩
   rw[hq] at heq
   have HQ:=zH hq
   clear hik hp hF cy hP hcx hcy hpc hs1 hs2 hlo hq hm2
   cases q with
   | true=>
    clear hl6 e3 e3w e4 e4w
    go_wp2_with fail
    refine heq.mono ?_
    rintro e w2 ⟨rfl,hw2⟩
    obtain rfl:wr=w2:=hw2.symm
    go_wp2_with fail
    go_roundg (gk - 1)
    case measure=>exact HR.out.1.2
    case rel=>
     have e5:difT (b+1) m L L' (i+1)=difT (b+1) m L L' i:=by rw[difT_succ,if_pos (of_decide_eq_true HQ.out),List.append_nil]
     exact⟨i+1,p,xs,by simp,c1,HR.out.1.1,by rw[e5];exact HR.out.2.1,HR.out.2.2.1,HR.out.2.2.2.1,trivial,by rw[e5];exact HR.out.2.2.2.2.1⟩
   | false=>
    go_wp2_with fail
    refine heq.mono ?_
    rintro e w2 ⟨rfl,hw2⟩
    obtain rfl:wr=w2:=hw2.symm
    clear heq
    go_upto_region 6 with (fail)
    obtain⟨W0,hW0⟩:∃W0,wr.drew=W0:=⟨_,rfl⟩
    have cd:Chg [] wr W0:=by rw[←hW0];exact (Chg.refl _ _).drew
    refine wp_region_U (Value.slice a5 p q5).ownBlock.toList (fun _=>false) (by kernel_rfl) ?_
    rw[hW0]
    clear hW0
    have C0:Chg (Value.slice a5 p q5).ownBlock.toList W0 W0:=Chg.refl _ _
    have hfo:f∉(Value.slice a5 p q5).ownBlock.toList:=fun hh=>by have h1:=HR.out.2.2.1.new f hh;have h2:=hfl.out;have h3:=H1.out.1.size;omega
    have hgyo:gy∉(Value.slice a5 p q5).ownBlock.toList:=fun hh=>by have h1:=HR.out.2.2.1.new gy hh;have h2:gy<w.heap.size:=(HH.out.2.2.1.lt (by decide)) gy (by simp[eyes];omega);have h3:=H1.out.1.size;omega
    have c1':=cd.cell_some c1 (by simp)
    have z1':=cd.cell_some z1 (by simp)
    refine tU 0 (.slice a5 p q5) C0 (fun w4 c4=>?_) ?_
    ·go_simp
    try simp only[Act.put,yA,yB,yC,yD,yE,yF]
    refine tU 1 (.pointer (some ⟨f,0,none⟩)) C0 (fun w4 c4=>?_) ?_
    ·go_simp
    try simp only[Act.put,yA,yB,yC,yD,yE,yF]
    refine tU 2 (.pointer (some ⟨f,0,none⟩)) C0 (fun w4 c4=>?_) ?_
    ·go_simp
    try simp only[Act.put,yA,yB,yC,yD,yE,yF]
    refine tU 3 (.pointer (some ⟨f,1,none⟩)) C0 (fun w4 c4=>?_) ?_
    ·go_simp
    try simp only[Act.put,yA,yB,yC,yD,yE,yF]
    refine tU 4 (.pointer (some ⟨l,0,none⟩)) C0 (fun w4 c4=>?_) ?_
    ·have z:=c4.cell_some c1' hfo
     go_simp
    try simp only[Act.put,yA,yB,yC,yD,yE,yF]
    refine tU 7 (.int .i64 i) C0 (fun w4 c4=>?_) ?_
    ·go_simp
    try simp only[Act.put,yA,yB,yC,yD,yE,yF]
    refine tU 9 (.slice (some ⟨gy,oy,none⟩) m cap) C0 (fun w4 c4=>?_) ?_
    ·go_simp
    try simp only[Act.put,yA,yB,yC,yD,yE,yF]
    refine tU 10 (.int .i64 i) C0 (fun w4 c4=>?_) ?_
    ·go_simp
    try simp only[Act.put,yA,yB,yC,yD,yE,yF]
    refine tU 11 (.pointer (some ⟨gy,oy+i,none⟩)) C0 (fun w4 c4=>?_) ?_
    ·go_simp
    try simp only[Act.put,yA,yB,yC,yD,yE,yF]
    refine tU 12 (.slice (some ⟨g',lo,none⟩) 256 256) C0 (fun w4 c4=>?_) ?_
    ·have z:=c4.cell_some z1' hgyo
     go_simp
    try simp only[Act.put,yA,yB,yC,yD,yE,yF]
    refine oU 5 ?_
    go_simp
    refine (hom W0 ((H1.out.1.nil HR.out.2.2.2.1).nil cd)).mono ?_
    rintro e w1' ⟨rfl,hw1'⟩
    obtain rfl:W0=w1':=hw1'.symm
    refine⟨C0,?_⟩
    try simp only[Act.put,yA,yB,yC,yD,yE,yF]
    refine tU 6 (.int .i64 ((b+1:Nat):Int)) C0 (fun w4 c4=>?_) ?_
    ·go_simp
    try simp only[Act.put,yA,yB,yC,yD,yE,yF]
    refine tU 8 (.int .i64 ((b+1+i:Nat):Int)) C0 (fun w4 c4=>?_) ?_
    ·go_simp
    try simp only[Act.put,yA,yB,yC,yD,yE,yF]
    refine tU 13 (.agg #[.int .i64 ((b+1+i:Nat):Int),.slice (some ⟨g',lo,none⟩) 256 256]) C0 (fun w4 c4=>?_) ?_
    ·go_simp
    try simp only[Act.put,yA,yB,yC,yD,yE,yF]
    refine oU 14 ?_
    go_simp
    have hca:Chg [] W0 (W0.alloc (.cells #[.int .i64 ((b+1+i:Nat):Int),.slice (some ⟨g',lo,none⟩) 256 256] 199)):=(Chg.refl [] _).alloc _
    have hbx':Blk (W0.alloc (.cells #[.int .i64 ((b+1+i:Nat):Int),.slice (some ⟨g',lo,none⟩) 256 256] 199)) W0.heap.size #[.int .i64 ((b+1+i:Nat):Int),.slice (some ⟨g',lo,none⟩) 256 256] 199:=Blk.new _ _ _
    have hsrc:Sees (W0.alloc (.cells #[.int .i64 ((b+1+i:Nat):Int),.slice (some ⟨g',lo,none⟩) 256 256] 199)) 2 (.slice (some ⟨W0.heap.size,0,none⟩) 1 1) 1 [.int .i64 ((b+1+i:Nat):Int),.slice (some ⟨g',lo,none⟩) 256 256]:=Sees.blk hbx'
    refine⟨hca.toS,?_⟩
    try simp only[Act.put,yA,yB,yC,yD,yE,yF]
    have cA:Chg [] wr (W0.alloc (.cells #[.int .i64 ((b+1+i:Nat):Int),.slice (some ⟨g',lo,none⟩) 256 256] 199)):=cd.nil hca
    have hFa:=HR.out.2.2.1.to cA
    refine oU 15 ?_
    refine wp_app _ _ 117 rfl sl_put hFa.own rfl hsrc rfl (by intro u hu;simp at hu;rcases hu with rfl | rfl <;> rfl) hl6.1 hl6.2 ?_
    intro v8 w8 ho8 c8 hn8
    have hF8:=hFa.app ho8 c8 hn8
    have cW8:=hca.toS.tr c8
    refine⟨cW8,?_⟩
    try simp only[Act.put,yA,yB,yC,yD,yE,yF]
    refine tU 16 (v8) cW8 (fun w4 c4=>?_) ?_
    ·go_simp
    try simp only[Act.put,yA,yB,yC,yD,yE,yF]
    refine wpAnyU_done (by kernel_rfl) ?_ _
    have c1n:=cW8.cell_some c1' hfo
    have HZ:=zC hF8 cA c8 hn8
    clear hF8 c8 hn8 ho8 cW8 hFa cA hsrc hbx' hca C0 cd c1' z1' hfo hgyo e3 e3w e4 e4w hl6 z0 z1 c1
    go_wp2_with fail
    go_roundg (gk - 1)
    case measure=>exact HR.out.1.2
    case rel=>
     obtain⟨hF8,cA,c8,hn8⟩:=HZ.out
     have e5:difT (b+1) m L L' (i+1)=difT (b+1) m L L' i++[(b+1+i,pieceT m L' i)]:=by rw[difT_succ,if_neg (of_decide_eq_false HQ.out)]
     have hw1:=(H1.out.1.nil HR.out.2.2.1.chg).size
     have hs3:=cA.size
     have g69:∀t∈(Value.slice a5 p q5).ownBlock.toList,g'≠t:=fun t ht e=>by have h1:=HR.out.2.2.1.new t ht;have h2:=HH.out.2.2.2.2.2.1;have h3:=H1.out.1.size;omega
     have hu:Upd ((Value.slice a5 p q5).ownBlock.toList++S) (v8.ownBlock.toList++S) wr w8:=⟨(cA.toS.tr c8).mono (fun k hk=>.inl (by simp[hk])),fun k hk=>by
      rcases List.mem_append.1 hk with hk | hk
      ·rcases hn8 k hk with h1 | h1
       ·exact .inl (by simp[h1])
       ·exact .inr (Nat.le_trans hs3 h1)
      ·exact .inl (by simp[hk])⟩
     have hsv:SecV w8 (v8.ownBlock.toList++S) (.slice (some ⟨g',lo,none⟩) 256 256) (pieceT m L' i):=by
      have hey:eyes (.slice (some ⟨g',lo,none⟩) 256 256)=[g']:=rfl
      refine⟨(HR.out.2.2.2.2.2.1.chg0 cA).chg c8 (fun t ht ht'=>?_),fun t ht ht'=>?_⟩
      ·rw[hey,List.mem_singleton] at ht;exact g69 t ht' ht.symm
      ·rw[hey,List.mem_singleton] at ht
       subst ht
       rcases List.mem_append.1 ht' with h2 | h2
       ·rcases hn8 t h2 with h3 | h3
        ·exact g69 t h3 rfl
        ·exact absurd (Nat.le_trans (Nat.le_trans hw1 hs3) h3) (Nat.not_le.2 HH.out.2.2.2.2.2.1)
       ·exact HH.out.2.2.2.2.1 h2
     refine⟨i+1,p+1,xs++[.int .i64 ((b+1+i:Nat):Int),.slice (some ⟨g',lo,none⟩) 256 256],by simp,c1n,HR.out.1.1,by rw[e5,List.length_append,HR.out.2.1];rfl,hF8,?_,trivial,?_⟩
     ·exact hF8.chg
     ·rw[e5]
      exact PendR.snoc hsv (HR.out.2.2.2.2.1.upd hu)
  ·have t0:decide ((i:Int)<(m:Int))=false:=by simp;omega
   have t0':decide (i<m)=false:=by simp;omega
   have him:i=m:=by have:=HI.out.1;omega
   have HQ:=zH him
   clear him hi
   obtain⟨a5,q5,rfl,-⟩:=HI.out.2.2.1.shape
   go_wp2_with fail
   go_ret
   obtain⟨hik,hp,hF,cy,-,hP⟩:=HI.out
   refine⟨.slice a5 p q5,xs,rfl,?_,?_⟩
   ·have e:=HQ.out
    subst e
    rw[HH.out.2.2.2.2.2.2.2.2.2,hp];exact hF.back H1.out.1
   ·have e:=HQ.out
    subst e
    rw[HH.out.2.2.2.2.2.2.2.2.2];exact hP
end Go.Proofs.YtlidiclfpklliaaGreatDoor
