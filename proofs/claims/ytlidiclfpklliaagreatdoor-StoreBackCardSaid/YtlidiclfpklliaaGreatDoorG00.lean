/- Pre Base Num Str FyK -/
import Derived.Lib.Hide
import Derived.WalkKit
import Derived.BigRegion
import Derived.Laws.AppendOwnNone
import Derived.Laws.BytesString
import Derived.Deep.Draws
import Derived.Laws.BitsLemmas
import Derived.Test.YtlidiclfpklliaaGreatDoorChecked
import Derived.Outline
import Derived.WalkSpells
import Derived.Laws.BytesArg
import Derived.Maps.Ext
import Derived.Maps.OwnSet
import Derived.Maps.RangeWalk
import Derived.Sort.KeysCollected
set_option linter.unusedSimpArgs false
set_option linter.unusedVariables false
namespace Go.Aq
open Go.RowKit
theorem yA {α:Type _} (xs:List α) (i:Nat) (h:i<xs.toArray.size):xs.toArray[i]=xs[i]'(by simpa using h):=List.getElem_toArray h
theorem yB {α:Type _} (a:α) (l:List α) (i:Nat) (h:i+1<(a::l).length):(a::l)[i+1]=l[i]'(Nat.lt_of_succ_lt_succ h):=List.getElem_cons_succ a l i h
theorem yC {α:Type _} (a:α) (l:List α) (h:0<(a::l).length):(a::l)[0]=a:=List.getElem_cons_zero a l h
theorem yD {α:Type _} (l:List α) (i:Nat) (a:α):l.toArray.setIfInBounds i a=(l.set i a).toArray:=List.setIfInBounds_toArray l i a
theorem yE {α:Type _} (a b:α) (l:List α):(a::l).set 0 b=b::l:=List.set_cons_zero
theorem yF {α:Type _} (a b:α) (l:List α) (n:Nat):(a::l).set (n+1) b=a::l.set n b:=List.set_cons_succ
theorem zH {p:Prop} (h:p):Hid p:=h
theorem zA {a b:Prop} (x:a) (y:b):Hid (a∧b):=⟨x,y⟩
theorem zB {a b c:Prop} (x:a) (y:b) (z:c):Hid (a∧b∧c):=⟨x,y,z⟩
theorem zC {a b c d:Prop} (x:a) (y:b) (z:c) (u:d):Hid (a∧b∧c∧d):=⟨x,y,z,u⟩
theorem zD {a b c d e:Prop} (x:a) (y:b) (z:c) (u:d) (v:e):Hid (a∧b∧c∧d∧e):=⟨x,y,z,u,v⟩
theorem zE {a b c d e f:Prop} (x:a) (y:b) (z:c) (u:d) (v:e) (w:f):Hid (a∧b∧c∧d∧e∧f):=⟨x,y,z,u,v,w⟩
theorem zF {a b c d e f g:Prop} (x:a) (y:b) (z:c) (u:d) (v:e) (w:f) (s:g):Hid (a∧b∧c∧d∧e∧f∧g):=⟨x,y,z,u,v,w,s⟩
theorem zG {a b c d e f g h:Prop} (x:a) (y:b) (z:c) (u:d) (v:e) (w:f) (s:g) (t:h):Hid (a∧b∧c∧d∧e∧f∧g∧h):=⟨x,y,z,u,v,w,s,t⟩
theorem jB {α:Type _} [BEq α] [LawfulBEq α] {a b:α} (h:a≠b):(a==b)=false:=beq_eq_false_iff_ne.2 h
theorem jN {α:Type _} [BEq α] [LawfulBEq α] {a b:α} (h:a≠b):(a != b)=true:=bne_iff_ne.2 h
def Blk (w:World) (p:Nat) (cs:Array Value) (e:TypeId):Prop:=w.heap[p]?=some (.cells cs e (0,0))
theorem Blk.lt {w:World} {p:Nat} {cs:Array Value} {e:TypeId} (h:Blk w p cs e):p<w.heap.size:=(Array.getElem?_eq_some_iff.1 h).1
theorem Blk.cell {w:World} {p:Nat} {cs:Array Value} {e:TypeId} (h:Blk w p cs e) (i:Nat):w.cell? ⟨p,i,none⟩=cs[i]?:=by
 unfold Blk at h;simp[World.cell?,h]
theorem Blk.frozen {w:World} {p:Nat} {cs:Array Value} {e:TypeId} (h:Blk w p cs e) (i:Nat):w.frozen? ⟨p,i,none⟩=false:=by
 unfold Blk at h;simp[World.frozen?,h]
theorem Blk.new (w:World) (cs:Array Value) (e:TypeId):Blk (w.alloc (.cells cs e)) w.heap.size cs e:=heap_alloc_new w _
theorem Blk.new_at (w:World) (cs:Array Value) (e:TypeId) {k:Nat} (h:w.heap.size=k):Blk (w.alloc (.cells cs e)) k cs e:=by subst h;exact Blk.new w cs e
theorem Blk.alloc {w:World} {p:Nat} {cs:Array Value} {e:TypeId} (h:Blk w p cs e) (o:Obj):Blk (w.alloc o) p cs e:=by
 unfold Blk;rw[Below.heap_alloc _ _ _ h.lt];exact h
theorem Blk.drew {w:World} {p:Nat} {cs:Array Value} {e:TypeId} (h:Blk w p cs e):Blk w.drew p cs e:=h
theorem Blk.set {w:World} {p:Nat} {cs:Array Value} {e:TypeId} (h:Blk w p cs e) (i:Nat) (u:Value):Blk (w.setCell ⟨p,i,none⟩ u) p (cs.setIfInBounds i u) e:=
 heap_setCell_same w p i cs e u h
theorem Blk.set_ne {w:World} {p:Nat} {cs:Array Value} {e:TypeId} (h:Blk w p cs e) {a:Addr} (hne:p≠a.block) (u:Value):Blk (w.setCell a u) p cs e:=by
 unfold Blk;rw[Below.heap_setCell _ _ _ _ hne];exact h
theorem Blk.inj {w:World} {p:Nat} {cs cs':Array Value} {e e':TypeId} (h:Blk w p cs e) (h':Blk w p cs' e'):cs=cs'∧e=e':=by
 unfold Blk at h h';rw[h] at h';simp at h';exact h'
theorem Blk.c1 {w:World} {p:Nat} {a:Value} {e:TypeId} (h:Blk w p #[a] e):w.cell? ⟨p,0,none⟩=some a∧w.frozen? ⟨p,0,none⟩=false:=⟨h.cell 0,h.frozen 0⟩
theorem Blk.c2 {w:World} {p:Nat} {a b:Value} {e:TypeId} (h:Blk w p #[a,b] e):
  (w.cell? ⟨p,0,none⟩=some a∧w.cell? ⟨p,1,none⟩=some b)∧w.frozen? ⟨p,0,none⟩=false∧w.frozen? ⟨p,1,none⟩=false:=
 ⟨⟨h.cell 0,h.cell 1⟩,h.frozen 0,h.frozen 1⟩
theorem Blk.c3 {w:World} {p:Nat} {a b c:Value} {e:TypeId} (h:Blk w p #[a,b,c] e):
  (w.cell? ⟨p,0,none⟩=some a∧w.cell? ⟨p,1,none⟩=some b∧w.cell? ⟨p,2,none⟩=some c)∧w.frozen? ⟨p,0,none⟩=false∧w.frozen? ⟨p,1,none⟩=false∧w.frozen? ⟨p,2,none⟩=false:=
 ⟨⟨h.cell 0,h.cell 1,h.cell 2⟩,h.frozen 0,h.frozen 1,h.frozen 2⟩
structure Chg (S:List Nat) (w w':World):Prop where
 os:w'.os=w.os
 tape:w'.tape=w.tape
 output:w'.output=w.output
 size:w.heap.size≤w'.heap.size
 block:∀k,k<w.heap.size→k∉S→w'.heap[k]?=w.heap[k]?
theorem Chg.refl (S:List Nat) (w:World):Chg S w w:=⟨rfl,rfl,rfl,Nat.le_refl _,fun _ _ _=>rfl⟩
theorem Chg.trans {S T:List Nat} {a b c:World} (h:Chg S a b) (k:Chg T b c) (hT:∀i∈T,i∈S∨a.heap.size≤i):Chg S a c:=
 ⟨k.os.trans h.os,k.tape.trans h.tape,k.output.trans h.output,Nat.le_trans h.size k.size,fun i hi hS=>
  (k.block i (Nat.lt_of_lt_of_le hi h.size) (fun e=>by rcases hT i e with h | h;(exact hS h);omega)).trans (h.block i hi hS)⟩
theorem Chg.mono {S T:List Nat} {a b:World} (h:Chg S a b) (hT:∀i∈S,i∈T∨a.heap.size≤i):Chg T a b:=
 ⟨h.os,h.tape,h.output,h.size,fun i hi hS=>h.block i hi (fun e=>by rcases hT i e with h | h;(exact hS h);omega)⟩
theorem Chg.tr {S:List Nat} {a b c:World} (h:Chg S a b) (k:Chg S b c):Chg S a c:=h.trans k fun _ hi=>.inl hi
theorem Chg.nil {S:List Nat} {a b c:World} (h:Chg S a b) (k:Chg [] b c):Chg S a c:=h.trans k (by simp)
theorem Chg.toS {S:List Nat} {a b:World} (h:Chg [] a b):Chg S a b:=h.mono (by simp)
theorem Chg.drew {S:List Nat} {a w:World} (h:Chg S a w):Chg S a w.drew:=⟨h.os,h.tape,h.output,h.size,h.block⟩
theorem Chg.drewN {S:List Nat} {a w:World} (h:Chg S a w) (q:Nat):Chg S a (w.drewN q):=⟨h.os,h.tape,h.output,h.size,h.block⟩
theorem Chg.alloc {S:List Nat} {a w:World} (h:Chg S a w) (o:Obj):Chg S a (w.alloc o):=
 h.trans (T:=[]) ⟨rfl,rfl,rfl,by simp,fun k hk _=>Below.heap_alloc _ _ _ hk⟩ (by simp)
theorem Chg.setCell {S:List Nat} {a w:World} (h:Chg S a w) {p:Addr} (hp:p.block∈S∨a.heap.size≤p.block) (u:Value):Chg S a (w.setCell p u):=
 h.trans (T:=[p.block]) ⟨rfl,rfl,rfl,by simp[World.setCell],fun k _ hk=>Below.heap_setCell _ _ _ _ (by simpa using hk)⟩ (by simpa using hp)
theorem Chg.of_grown {w w':World} {row:Option Nat} (h:w.grownBy w' row):Chg row.toList w w':=
 ⟨h.os,h.tape,h.output,h.size,fun k hk hS=>h.block k hk (fun e=>hS (by rw[←e];simp))⟩
theorem Chg.of_below {w w':World} (h:Below w.heap.size w w'):Chg [] w w':=⟨h.os,h.tape,h.output,h.size,fun k hk _=>h.block k hk⟩
theorem Chg.below {S:List Nat} {w w':World} (h:Chg S w w') {B:Nat} (hB:B≤w.heap.size) (hS:∀k∈S,B≤k):Below B w w':=
 ⟨h.os,h.tape,h.output,h.size,fun k hk=>h.block k (by omega) (fun e=>by have:=hS k e;omega)⟩
theorem Chg.below0 {w w':World} (h:Chg [] w w'):Below w.heap.size w w':=h.below (Nat.le_refl _) (by simp)
theorem Chg.cell {S:List Nat} {w w':World} (h:Chg S w w') {a:Addr} (ha:a.block<w.heap.size) (hS:a.block∉S):w'.cell? a=w.cell? a:=World.cell?_of_block (h.block _ ha hS)
theorem Chg.cell_some {S:List Nat} {w w':World} (h:Chg S w w') {a:Addr} {v:Value} (hc:w.cell? a=some v) (hS:a.block∉S):w'.cell? a=some v:=
 (h.cell (World.block_lt_of_cell? w a hc) hS).trans hc
theorem Blk.chg {w w':World} {p:Nat} {cs:Array Value} {e:TypeId} {S:List Nat} (h:Blk w p cs e) (c:Chg S w w') (hp:p∉S):Blk w' p cs e:=by
 unfold Blk;rw[c.block p h.lt hp];exact h
theorem Blk.chg0 {w w':World} {p:Nat} {cs:Array Value} {e:TypeId} (h:Blk w p cs e) (c:Chg [] w w'):Blk w' p cs e:=h.chg c (by simp)
def Disj (S T:List Nat):Prop:=∀k∈S,k∉T
theorem Disj.symm {S T:List Nat} (h:Disj S T):Disj T S:=fun k hk hs=>h k hs hk
def In (w:World) (S:List Nat):Prop:=∀k∈S,k<w.heap.size
theorem In.chg {w w':World} {S T:List Nat} (h:In w S) (c:Chg T w w'):In w' S:=fun k hk=>Nat.lt_of_lt_of_le (h k hk) c.size
structure Upd (S S':List Nat) (w w':World):Prop where
 chg:Chg S w w'
 new:∀k∈S',k∈S∨w.heap.size≤k
theorem Upd.refl (S:List Nat) (w:World):Upd S S w w:=⟨Chg.refl _ _,fun _ h=>.inl h⟩
theorem Upd.trans {S S' S'':List Nat} {a b c:World} (h:Upd S S' a b) (k:Upd S' S'' b c):Upd S S'' a c:=
 ⟨h.chg.trans k.chg h.new,fun i hi=>by
  rcases k.new i hi with h1 | h1
  ·exact h.new i h1
  ·exact .inr (Nat.le_trans h.chg.size h1)⟩
theorem Upd.nil {S S':List Nat} {a b c:World} (h:Upd S S' a b) (k:Chg [] b c):Upd S S' a c:=⟨h.chg.nil k,h.new⟩
theorem Disj.upd {S S' T:List Nat} {w w':World} (h:Disj T S) (u:Upd S S' w w') (ht:In w T):Disj T S':=fun k hk hs=>by
 rcases u.new k hs with h1 | h1
 ·exact h k hk h1
 ·have:=ht k hk;omega
def Own (w:World) (e:TypeId) (size:Nat) (v:Value) (n:Nat) (xs:List Value):Prop:=w.ownsRow 0 e size v n xs
def Sees (w:World) (size:Nat) (v:Value) (n:Nat) (xs:List Value):Prop:=
 xs.length=n * size∧∃ao cap,v=.slice ao n cap∧n≤cap∧(ao=none→n=0∧cap=0)∧∀ad,ao=some ad→∀j u,xs[j]?=some u→w.cell? (ad.add j)=some u
theorem Own.nil (w:World) (e:TypeId) (size:Nat):Own w e size (.slice none 0 0) 0 []:=World.ownsRow_nil w 0 e size
theorem Own.made (w:World) (e:TypeId) (size:Nat):Own (w.alloc (.cells #[] e)) e size (.slice (some ⟨w.heap.size,0,none⟩) 0 0) 0 []:=
 World.ownsRow_made w #[] 0 (Nat.zero_le _) (Nat.zero_le _) (by simp)
theorem Own.len {w:World} {e:TypeId} {size:Nat} {v:Value} {n:Nat} {xs:List Value} (h:Own w e size v n xs):xs.length=n * size:=h.1
theorem Own.shape {w:World} {e:TypeId} {size:Nat} {v:Value} {n:Nat} {xs:List Value} (h:Own w e size v n xs):
  (v=.slice none 0 0∧n=0∧xs=[])∨∃g cap,v=.slice (some ⟨g,0,none⟩) n cap∧n≤cap∧cap≤9223372036854775807∧g<w.heap.size:=by
 rcases h.2 with ⟨rfl,rfl⟩ | ⟨g,cap,cur,rfl,_,hg,h1,h2,_⟩
 ·exact .inl ⟨rfl,rfl,List.eq_nil_of_length_eq_zero (by simpa using h.1)⟩
 ·exact .inr ⟨g,cap,rfl,h1,by simpa[maxLen] using h2,(Array.getElem?_eq_some_iff.1 hg).1⟩
theorem Own.pos {w:World} {e:TypeId} {size:Nat} {v:Value} {n:Nat} {xs:List Value} (h:Own w e size v n xs) (hn:0<n):
  ∃g cap,v=.slice (some ⟨g,0,none⟩) n cap∧n≤cap∧cap≤9223372036854775807∧g<w.heap.size:=by
 rcases h.shape with ⟨_,rfl,_⟩ | h
 ·omega
 ·exact h
theorem Own.sees {w:World} {e:TypeId} {size:Nat} {v:Value} {n:Nat} {xs:List Value} (h:Own w e size v n xs):Sees w size v n xs:=by
 refine⟨h.1,?_⟩
 rcases h.shape with ⟨rfl,rfl,rfl⟩ | ⟨g,cap,rfl,hc,_⟩
 ·exact⟨none,0,rfl,Nat.le_refl _,fun _=>⟨rfl,rfl⟩,by simp⟩
 ·refine⟨_,cap,rfl,hc,by simp,fun ad had j u hu=>?_⟩
  cases had
  exact World.ownsRow.cells h (g:=g) rfl j u hu
theorem Own.lt {w:World} {e:TypeId} {size:Nat} {v:Value} {n:Nat} {xs:List Value} (h:Own w e size v n xs):In w v.ownBlock.toList:=fun k hk=>
 (World.ownsRow.lt h k (by simpa[Option.mem_toList] using hk)).2
theorem Own.chg {w w':World} {e:TypeId} {size:Nat} {v:Value} {n:Nat} {xs:List Value} {S:List Nat} (h:Own w e size v n xs) (c:Chg S w w') (hd:Disj v.ownBlock.toList S):Own w' e size v n xs:=by
 refine⟨h.1,?_⟩
 rcases h.2 with h2 | ⟨g,cap,cur,hv,hb,hg,r⟩
 ·exact .inl h2
 ·refine .inr ⟨g,cap,cur,hv,hb,?_,r⟩
  rw[c.block g (Array.getElem?_eq_some_iff.1 hg).1 (hd g (by rw[hv];simp[Value.ownBlock]))]
  exact hg
theorem Own.alloc {w:World} {e:TypeId} {size:Nat} {v:Value} {n:Nat} {xs:List Value} (h:Own w e size v n xs) (o:Obj):Own (w.alloc o) e size v n xs:=
 h.chg ((Chg.refl [] w).alloc o) (fun _ _=>by simp)
theorem Own.ne {w:World} {e e':TypeId} {size:Nat} {v:Value} {n:Nat} {xs:List Value} {p:Nat} {cs:Array Value} (h:Own w e size v n xs) (hb:Blk w p cs e') (hne:e≠e'):p∉v.ownBlock.toList:=by
 intro hp
 rcases h.2 with ⟨rfl,_⟩ | ⟨g,cap,cur,rfl,_,hg,_⟩
 ·simp[Value.ownBlock] at hp
 ·simp[Value.ownBlock] at hp
  subst hp
  exact hne (Blk.inj (show Blk w p cur e from hg) hb).2
theorem Own.set {w:World} {e:TypeId} {size:Nat} {g n cap:Nat} {xs:List Value} (h:Own w e size (.slice (some ⟨g,0,none⟩) n cap) n xs) (j:Nat) (u:Value):
  Own (w.setCell ⟨g,j,none⟩ u) e size (.slice (some ⟨g,0,none⟩) n cap) n (xs.set j u):=(World.ownsRow.stored h j u).1
theorem Own.set_ne {w:World} {e:TypeId} {size:Nat} {v:Value} {n:Nat} {xs:List Value} (h:Own w e size v n xs) {a:Addr} (ha:a.block∉v.ownBlock.toList) (u:Value):
  Own (w.setCell a u) e size v n xs:=h.chg (S:=[a.block]) ((Chg.refl _ w).setCell (by simp) u) (fun k hk=>by simp;rintro rfl;exact ha hk)
theorem Own.cellAt {w:World} {e:TypeId} {size:Nat} {g n cap:Nat} {xs:List Value} (h:Own w e size (.slice (some ⟨g,0,none⟩) n cap) n xs) (j:Nat) (hj:j<n * size):w.cell? ⟨g,j,none⟩=xs[j]?:=
 World.ownsRow.cellAt h j hj
theorem Own.frozenAt {w:World} {e:TypeId} {size:Nat} {g n cap:Nat} {xs:List Value} (h:Own w e size (.slice (some ⟨g,0,none⟩) n cap) n xs) (j:Nat):w.frozen? ⟨g,j,none⟩=false:=
 World.ownsRow.frozenAt h j
theorem Sees.len {w:World} {size:Nat} {v:Value} {n:Nat} {xs:List Value} (h:Sees w size v n xs):xs.length=n * size:=h.1
theorem Sees.nil (w:World) (size:Nat):Sees w size (.slice none 0 0) 0 []:=⟨by simp,none,0,rfl,Nat.le_refl _,fun _=>⟨rfl,rfl⟩,by simp⟩
def eyes:Value→List Nat
 | .slice (some a) n _=>if n=0 then [] else [a.block]
 | _=>[]
theorem eyes_own (v:Value):∀k∈eyes v,k∈v.ownBlock.toList:=by
 intro k hk
 unfold eyes at hk
 split at hk
 ·split at hk
  ·simp at hk
  ·simpa[Value.ownBlock] using hk
 ·simp at hk
theorem Sees.chg {w w':World} {size:Nat} {v:Value} {n:Nat} {xs:List Value} {S:List Nat} (h:Sees w size v n xs) (c:Chg S w w') (hd:Disj (eyes v) S):Sees w' size v n xs:=by
 obtain⟨h1,ao,cap,rfl,h2,h3,h4⟩:=h
 refine⟨h1,ao,cap,rfl,h2,h3,fun ad had j u hu=>?_⟩
 have:=h4 ad had j u hu
 refine c.cell_some this ?_
 have hb:(ad.add j).block=ad.block:=by unfold Addr.add;split <;> rfl
 rw[hb]
 have hn:n≠0:=by
  rintro rfl
  have:=(List.getElem?_eq_some_iff.1 hu).1
  omega
 exact hd _ (by subst had;simp[eyes,hn])
theorem Sees.lt {w:World} {size:Nat} {v:Value} {n:Nat} {xs:List Value} (h:Sees w size v n xs) (hs:0<size):In w (eyes v):=by
 obtain⟨h1,ao,cap,rfl,h2,h3,h4⟩:=h
 intro k hk
 unfold eyes at hk
 split at hk
 ·rename_i a n' cap' he
  simp only[Value.slice.injEq] at he
  obtain⟨rfl,rfl,rfl⟩:=he
  split at hk
  ·simp at hk
  ·rename_i hn
   simp at hk
   subst hk
   have hpos:0<n * size:=Nat.mul_pos (by omega) hs
   have:=h4 a rfl 0 (xs[0]'(by omega)) (by simp)
   have:=World.block_lt_of_cell? w _ this
   simpa[Addr.add] using this
 ·simp at hk
theorem Sees.chg0 {w w':World} {size:Nat} {v:Value} {n:Nat} {xs:List Value} (h:Sees w size v n xs) (c:Chg [] w w'):Sees w' size v n xs:=h.chg c (fun _ _=>by simp)
theorem Sees.at1 {w:World} {v:Value} {n:Nat} {xs:List Value} (h:Sees w 1 v n xs) (hn:0<n):
  ∃g off cap,v=.slice (some ⟨g,off,none⟩) n cap∧n≤cap∧∀j,j<n→w.cell? ⟨g,off+j,none⟩=xs[j]?:=by
 obtain⟨h1,ao,cap,rfl,h2,h3,h4⟩:=h
 cases ao with
 | none=>have:=(h3 rfl).1;omega
 | some ad=>
  have h0:=h4 ad rfl 0 (xs[0]'(by omega)) (by simp)
  have hs:ad.spot=none:=by
   have h0':w.cell? ad=some (xs[0]'(by omega)):=by simpa[Addr.add] using h0
   unfold World.cell? at h0'
   split at h0'
   ·split at h0'
    ·simp at h0'
    ·rename_i hh;simpa using hh
   ·simp at h0'
  obtain⟨g,off,sp⟩:=ad
  simp at hs
  subst hs
  refine⟨g,off,cap,rfl,h2,fun j hj=>?_⟩
  have:=h4 _ rfl j (xs[j]'(by omega)) (by simp)
  rw[Addr.add_lit] at this
  rw[this]
  simp
theorem Sees.cells {w:World} {size:Nat} {v:Value} {n:Nat} {xs:List Value} (h:Sees w size v n xs) (hn:0<n * size):
  ∃g off cap,v=.slice (some ⟨g,off,none⟩) n cap∧n≤cap∧g<w.heap.size∧∀j,j<n * size→w.cell? ⟨g,off+j,none⟩=xs[j]?:=by
 obtain⟨h1,ao,cap,rfl,h2,h3,h4⟩:=h
 cases ao with
 | none=>rw[(h3 rfl).1] at hn;simp at hn
 | some ad=>
  have h0:=h4 ad rfl 0 (xs[0]'(by omega)) (by simp)
  have h0':w.cell? ad=some (xs[0]'(by omega)):=by simpa[Addr.add] using h0
  have hs:ad.spot=none:=by
   unfold World.cell? at h0'
   split at h0'
   ·split at h0'
    ·simp at h0'
    ·rename_i hh;simpa using hh
   ·simp at h0'
  obtain⟨g,off,sp⟩:=ad
  simp at hs
  subst hs
  refine⟨g,off,cap,rfl,h2,World.block_lt_of_cell? w _ h0',fun j hj=>?_⟩
  have:=h4 _ rfl j (xs[j]'(by omega)) (by simp)
  rw[Addr.add_lit] at this
  rw[this]
  simp
theorem Sees.shape {w:World} {size:Nat} {v:Value} {n:Nat} {xs:List Value} (h:Sees w size v n xs):∃ao cap,v=.slice ao n cap∧n≤cap∧(ao=none→n=0∧cap=0):=by
 obtain⟨_,ao,cap,h1,h2,h3,_⟩:=h
 exact⟨ao,cap,h1,h2,h3⟩
def SliceTy (P:Program) (t e:TypeId) (z:Value) (size bytes:Nat):Prop:=
 P.underlying t=some (.slice e)∧(P.info? e).map (fun i=>(i.zero,i.size,i.bytes))=some (some z,size,bytes)∧z.cells.size=size∧0<size
theorem run_app {P:Program} (w:World) (t ty e:TypeId) (i:TypeInfo) (z:Value) (ht:P.underlying t=some (.slice e)) (hi:P.info? e=some i) (hz:i.zero=some z)
  (hzs:z.cells.size=i.size) (v:Value) (n:Nat) (xs:List Value) (hown:Own w e i.size v n xs)
  (a:Addr) (m c:Nat) (news:List Value) (hl:news.length=m * i.size) (hnews:∀j u,news[j]?=some u→w.cell? (a.add j)=some u) (h1:∀u∈news,u.oneCell'=true)
  (h63:n+m≤9223372036854775807) (hbytes:(n+m) * i.bytes≤140737488355328):
  ∃v' w',(Builtin.append_ #[t,t] ty #[v,.slice (some a) m c]).run P w=.ok v' w'∧Own w' e i.size v' (n+m) (xs++news)∧Chg v.ownBlock.toList w w'∧
   (∀k∈v'.ownBlock.toList,k∈v.ownBlock.toList∨w.heap.size≤k):=by
 have h63':n+m≤maxLen:=by simpa[maxLen] using h63
 have hlen:(xs++news).length=(n+m) * i.size:=by rw[List.length_append,hown.1,hl,Nat.add_mul]
 have grown:∀(old:Nat) (S:List Nat),
   Own (w.drew.alloc (.cells (xs.toArray++news.toArray++Builtin.zeroCells z.cells (grownCap w (n+m) old e - (n+m))) e)) e i.size
    (.slice (some ⟨w.heap.size,0,none⟩) (n+m) (grownCap w (n+m) old e)) (n+m) (xs++news)∧
   Chg S w (w.drew.alloc (.cells (xs.toArray++news.toArray++Builtin.zeroCells z.cells (grownCap w (n+m) old e - (n+m))) e)):=by
  intro old S
  have hge:=grownCap_ge w (n+m) old e
  have hcm:grownCap w (n+m) old e≤maxLen:=grownCap_le_maxLen w (n+m) old e h63'
  refine⟨⟨hlen,.inr ⟨w.heap.size,_,_,rfl,Nat.zero_le _,heap_alloc_new w.drew _,hge,hcm,?_,?_⟩⟩,((Chg.refl S w).drew).alloc _⟩
  ·simp only[Array.size_append,List.size_toArray,size_zeroCells,hzs,hown.1,hl,←Nat.add_mul]
   congr 1
   omega
  ·simp only[Array.toList_append,List.append_assoc]
   rw[←List.append_assoc,←hlen]
   exact List.take_left
 rcases hown.2 with ⟨rfl,rfl⟩ | ⟨g,cap,cur,rfl,hbg,hg,hnc,hcm,hcs,htake⟩
 ·have hx:xs=[]:=List.eq_nil_of_length_eq_zero (by simpa using hown.1)
  subst hx
  by_cases hm:m=0
  ·subst hm
   have hn:news=[]:=List.eq_nil_of_length_eq_zero (by simpa using hl)
   subst hn
   refine⟨.slice none 0 0,w,?_,Own.nil w e i.size,Chg.refl _ _,fun k hk=>.inl hk⟩
   simp[Builtin.append_,run_underlying ht,sizeOf,typeInfo,hi,Builtin.lenOf,Builtin.firstCells,loadCells,loadCellsFrom]
  ·have hr:=run_append_nil (P:=P) w t ty e i z ht hi hz a m c news hl hnews (by omega) (by omega) (by have hb:=hbytes;simp only[Nat.zero_add] at hb;omega)
   have hgr:=grown 0 (Value.ownBlock (.slice none 0 0)).toList
   simp only[Nat.zero_add,List.nil_append,Array.empty_append] at hgr ⊢
   exact⟨_,_,hr,hgr.1,hgr.2,by simp[Value.ownBlock]⟩
 ·by_cases hroom:n+m≤cap
  ·have hfit:n * i.size+news.length≤cur.size:=by rw[hl,hcs,←Nat.add_mul];exact Nat.mul_le_mul_right _ hroom
   have hr:=run_append_room (P:=P) w t ty e i ht hi g n cap cur hg a m c news hl hnews h1 hroom hfit
   refine⟨_,_,hr,⟨hlen,.inr ⟨g,cap,_,rfl,hbg,setRow_heap w g cur _ e _ hg,hroom,hcm,?_,?_⟩⟩,⟨rfl,rfl,rfl,by simp,fun k _ hk=>setRow_other w g k _ (fun e=>hk (by simp[Value.ownBlock,e]))⟩,fun k hk=>.inl hk⟩
   ·simp only[List.size_toArray,List.length_append,List.length_take,List.length_drop,Array.length_toList]
    omega
   ·rw[htake,←hlen]
    exact List.take_left
  ·have holds:∀j u,xs[j]?=some u→w.cell? ((⟨g,0,none⟩:Addr).add j)=some u:=World.ownsRow.cells hown (g:=g) rfl
   have hr:=run_append_grow (P:=P) w t ty e i z ht hi hz ⟨g,0,none⟩ n cap xs hown.1 holds a m c news hl hnews (by omega) (by omega) (growslice_fits (by omega) hbytes)
   have hgr:=grown cap (Value.ownBlock (.slice (some ⟨g,0,none⟩) n cap)).toList
   exact⟨_,_,hr,hgr.1,hgr.2,by simp[Value.ownBlock]⟩
theorem wpList_app {P:Program} {W:World} {ops:Array Oper} {rest:List Oper} {o:Oper} {a:Act} {Q:Exit→Act→World→Prop} (hgd:o.guard=none) (s x:Operand) (t:TypeId)
  (ho:o.op=.call { callee:=.builtin .append,args:=#[s,x],argTypes:=#[t,t] })
  {e:TypeId} {z:Value} {size bytes:Nat} (ht:SliceTy P t e z size bytes)
  {v:Value} {n:Nat} {xs:List Value} (hown:Own W e size v n xs) (hs:a.eval s=v) {vx:Value} {m:Nat} {news:List Value} (hsrc:Sees W size vx m news) (hx:a.eval x=vx)
  (h1:∀u∈news,u.oneCell'=true) (hb:(n+m) * bytes≤140737488355328) (h63:n+m≤9223372036854775807)
  (h:∀v' W',Own W' e size v' (n+m) (xs++news)→Chg v.ownBlock.toList W W'→(∀k∈v'.ownBlock.toList,k∈v.ownBlock.toList∨W.heap.size≤k)→wpList P ops Q rest (a.put o.dst v') W'):wpList P ops Q (o::rest) a W:=by
 obtain⟨ht1,ht2,ht3,ht4⟩:=ht
 obtain⟨i,hi,hz0,rfl,rfl⟩:=info_parts ht2
 obtain⟨hl,ao,cap,rfl,hc,hno,hcells⟩:=hsrc
 cases ao with
 | none=>
  obtain⟨rfl,rfl⟩:=hno rfl
  have:news=[]:=List.eq_nil_of_length_eq_zero (by simpa using hl)
  subst this
  refine wpList_append_own_none hgd s x t ho 0 e i i.size ht1 hi v n xs hs hown hx ?_
  exact h v W (by simpa using hown) (Chg.refl _ _) (fun _ hk=>.inl hk)
 | some ad=>
  refine wpList_plain hgd fun _ hK=>?_
  obtain⟨v',w',hr,h2,h3,h4⟩:=run_app (P:=P) W t o.type e i z ht1 hi hz0 ht3 v n xs hown ad m cap news hl (hcells ad rfl) h1 h63 hb
  unfold Oper.wp execOp
  simp only[ho,resolve,invoke,builtin,Sem.run_bind,Sem.run_pure,Result.andThen_ok,List.map_toArray,List.map_cons,List.map_nil,hs,hx,hr]
  exact hK _ _ (h v' w' h2 h3 h4)
theorem wpList_push {P:Program} {w:World} {ops:Array Oper} {rest:List Oper} {o:Oper} {a:Act} {Q:Exit→Act→World→Prop} (hgd:o.guard=none) (s x:Operand) (t:TypeId)
  (ho:o.op=.call { callee:=.builtin .append,args:=#[s,x],argTypes:=#[t,t] })
  {e:TypeId} {z:Value} {bytes:Nat} (ht:SliceTy P t e z 1 bytes)
  {v:Value} {n:Nat} {xs:List Value} (hown:Own w e 1 v n xs) (hs:a.eval s=v) {e':TypeId} {u:Value} (hx:a.eval x=.slice (some ⟨w.heap.size,0,none⟩) 1 1)
  (h1:u.oneCell'=true) (hb:(n+1) * bytes≤140737488355328) (h63:n+1≤9223372036854775807)
  (h:∀g cap W',Own W' e 1 (.slice (some ⟨g,0,none⟩) (n+1) cap) (n+1) (xs++[u])→Chg v.ownBlock.toList w W'→(g∈v.ownBlock.toList∨w.heap.size≤g)→n+1≤cap→g<W'.heap.size→
   wpList P ops Q rest (a.put o.dst (.slice (some ⟨g,0,none⟩) (n+1) cap)) W'):wpList P ops Q (o::rest) a (w.alloc (.cells #[u] e')):=by
 refine wpList_app hgd s x t ho ht (hown.alloc _) hs (m:=1) (news:=[u]) ⟨rfl,_,_,rfl,Nat.le_refl _,by simp,?_⟩ hx (by simpa using h1) hb h63 ?_
 ·intro ad had j u' hu
  cases had
  match j,hu with
  | 0,hu=>simp at hu;subst hu;simp[Addr.add]
 ·intro v' W' h2 h3 h4
  obtain⟨g,cap,rfl,h5,_,h6⟩:=h2.pos (by omega)
  refine h g cap W' h2 (((Chg.refl _ w).alloc _).trans h3 (fun i hi=>.inl hi)) ?_ h5 h6
  rcases h4 g (by simp[Value.ownBlock]) with h | h
  ·exact .inl h
  ·right;simp at h;omega
theorem wpList_mk {P:Program} {w:World} {ops:Array Oper} {rest:List Oper} {o:Oper} {a:Act} {Q:Exit→Act→World→Prop} (hg:o.guard=none) (l c:Operand) (t:TypeId) (hop:o.op=Op.makeSlice t l c)
  {e:TypeId} {z:Value} {bytes:Nat} (ht:SliceTy P t e z 1 bytes) (hz:z.cells=#[z]) (kl kc:IntKind) (n:Nat) {L C:Int} (hl:a.eval l=.int kl L) (hc:a.eval c=.int kc C) (hL:L=(n:Int)) (hC:C=(n:Int))
  (hb:bytes * n≤281474976710656) (h63:n≤9223372036854775807)
  (h:∀w',Own w' e 1 (.slice (some ⟨w.heap.size,0,none⟩) n n) n (List.replicate n z)→Chg [] w w'→w.heap.size<w'.heap.size→
   wpList P ops Q rest (a.put o.dst (.slice (some ⟨w.heap.size,0,none⟩) n n)) w'):wpList P ops Q (o::rest) a w:=by
 obtain⟨ht1,ht2,ht3,ht4⟩:=ht
 obtain⟨i,hi,hz0,hz1,rfl⟩:=info_parts ht2
 refine wpList_make_full w hg l c t hop 0 e i z 1 ht1 hi hz0 hz1 kl kc L C n hl hc hL hC hb (by simpa[maxLen] using h63) (Nat.zero_le _) ?_
 intro w' h1 h2
 rw[hz,Nat.mul_one,toList_madeCells_one] at h1
 refine h w' h1 (Chg.of_grown h2) ?_
 rcases h1.2 with ⟨h3,_⟩ | ⟨g,cap,cur,h3,_,hg,_⟩
 ·simp at h3
 ·simp only[Value.slice.injEq,Option.some.injEq,Addr.mk.injEq,and_true] at h3
  rw[h3.1]
  exact (Array.getElem?_eq_some_iff.1 hg).1
theorem Sees.blk {W:World} {k:Nat} {cs:Array Value} {e:TypeId} (h:Blk W k cs e):Sees W cs.size (.slice (some ⟨k,0,none⟩) 1 1) 1 cs.toList:=by
 refine⟨by simp,_,_,rfl,Nat.le_refl _,by simp,fun ad had j u hu=>?_⟩
 cases had
 rw[Addr.add_lit,Nat.zero_add,h.cell]
 simpa using hu
theorem wp_app {P:Program} {W:World} {o:Oper} {a:Act} {K:Act→World→Prop} {Q:Exit→Act→World→Prop} (s x:Operand) (t:TypeId)
  (ho:o.op=.call { callee:=.builtin .append,args:=#[s,x],argTypes:=#[t,t] })
  {e:TypeId} {z:Value} {size bytes:Nat} (ht:SliceTy P t e z size bytes)
  {v:Value} {n:Nat} {xs:List Value} (hown:Own W e size v n xs) (hs:a.eval s=v) {vx:Value} {m:Nat} {news:List Value} (hsrc:Sees W size vx m news) (hx:a.eval x=vx)
  (h1:∀u∈news,u.oneCell'=true) (hb:(n+m) * bytes≤140737488355328) (h63:n+m≤9223372036854775807)
  (h:∀v' W',Own W' e size v' (n+m) (xs++news)→Chg v.ownBlock.toList W W'→(∀k∈v'.ownBlock.toList,k∈v.ownBlock.toList∨W.heap.size≤k)→K (a.put o.dst v') W'):o.wp P a W K Q:=by
 obtain⟨ht1,ht2,ht3,ht4⟩:=ht
 obtain⟨i,hi,hz0,rfl,rfl⟩:=info_parts ht2
 obtain⟨hl,ao,cap,rfl,hc,hno,hcells⟩:=hsrc
 cases ao with
 | none=>
  obtain⟨rfl,rfl⟩:=hno rfl
  have:news=[]:=List.eq_nil_of_length_eq_zero (by simpa using hl)
  subst this
  have hrun:=run_append_owned_none (P:=P) (w:=W) 0 t o.type e i i.size ht1 hi v n xs hown
  unfold Oper.wp
  simp[execOp,ho,resolve,invoke,builtin,hs,hx,hrun,Result.andThen]
  exact h v W (by simpa using hown) (Chg.refl _ _) (fun _ hk=>.inl hk)
 | some ad=>
  obtain⟨v',w',hr,h2,h3,h4⟩:=run_app (P:=P) W t o.type e i z ht1 hi hz0 ht3 v n xs hown ad m cap news hl (hcells ad rfl) h1 h63 hb
  unfold Oper.wp execOp
  simp only[ho,resolve,invoke,builtin,Sem.run_bind,Sem.run_pure,Result.andThen_ok,List.map_toArray,List.map_cons,List.map_nil,hs,hx,hr]
  exact h v' w' h2 h3 h4
theorem step_app {P:Program} {W:World} {ops:Array Oper} {o:Oper} {a:Act} {K:Act→World→Prop} {Q:Exit→Act→World→Prop} {E:Prop} (hgd:o.guard=none) (s x:Operand) (t:TypeId)
  (ho:o.op=.call { callee:=.builtin .append,args:=#[s,x],argTypes:=#[t,t] })
  {e:TypeId} {z:Value} {size bytes:Nat} (ht:SliceTy P t e z size bytes)
  {v:Value} {n:Nat} {xs:List Value} (hown:Own W e size v n xs) (hs:a.eval s=v) {vx:Value} {m:Nat} {news:List Value} (hsrc:Sees W size vx m news) (hx:a.eval x=vx)
  (h1:∀u∈news,u.oneCell'=true) (hb:(n+m) * bytes≤140737488355328) (h63:n+m≤9223372036854775807)
  (h:∀v' W',Own W' e size v' (n+m) (xs++news)→Chg v.ownBlock.toList W W'→(∀k∈v'.ownBlock.toList,k∈v.ownBlock.toList∨W.heap.size≤k)→K (a.put o.dst v') W'):
  if Region.wanted o (yielded ops a.tmps)=true then Oper.wp P o a W K Q else E:=by
 have hw:Region.wanted o (yielded ops a.tmps)=true:=by simp[Region.wanted,hgd]
 rw[if_pos hw]
 exact wp_app s x t ho ht hown hs hsrc hx h1 hb h63 h
theorem wrap_i64_nat (a:Nat) (h:a≤4611686018427387904):IntKind.i64.wrap (a:Int)=(a:Int):=by
 simp[IntKind.wrap,IntKind.bits,IntKind.signed]
 split <;> omega
def Bc (c:UInt8):Value:=.int .u8 c.toNat
def Bs (l:List UInt8):List Value:=l.map Bc
theorem Bs_length (l:List UInt8):(Bs l).length=l.length:=by simp[Bs]
theorem Bs_append (l m:List UInt8):Bs (l++m)=Bs l++Bs m:=by simp[Bs]
theorem Bs_get (l:List UInt8) (j:Nat) (h:j<l.length):(Bs l)[j]?=some (.int .u8 ((l[j]'h).toNat:Int)):=by simp[Bs,Bc,h]
theorem Bs_set (l:List UInt8) (j:Nat) (c:UInt8):(Bs l).set j (.int .u8 (c.toNat:Int))=Bs (l.set j c):=by simp[Bs,Bc,List.map_set]
theorem Bs_one (l:List UInt8):∀u∈Bs l,u.oneCell'=true:=by
 intro u hu;obtain⟨_,_,rfl⟩:=List.mem_map.1 hu;rfl
theorem bits_nat_full (k:IntKind) (hk:∀n:Nat,n<2^k.bits→k.wrap n=n) (a b:Nat) (ha:a<2^k.bits) (hb:b<2^k.bits):
  bits .and k a b=((a &&& b:Nat):Int)∧bits .or k a b=((a ||| b:Nat):Int)∧bits .xor k a b=((a ^^^ b:Nat):Int):=by
 have ha':a % 2^k.bits=a:=Nat.mod_eq_of_lt ha
 have hb':b % 2^k.bits=b:=Nat.mod_eq_of_lt hb
 refine⟨?_,?_,?_⟩
 ·simp only[bits,BitVec.ofInt_natCast,BitVec.toNat_and,BitVec.toNat_ofNat,ha',hb']
  exact hk _ (Nat.and_lt_two_pow _ hb)
 ·simp only[bits,BitVec.ofInt_natCast,BitVec.toNat_or,BitVec.toNat_ofNat,ha',hb']
  exact hk _ (Nat.or_lt_two_pow ha hb)
 ·simp only[bits,BitVec.ofInt_natCast,BitVec.toNat_xor,BitVec.toNat_ofNat,ha',hb']
  exact hk _ (Nat.xor_lt_two_pow ha hb)
theorem bits_u8 (a b:Nat) (ha:a<256) (hb:b<256):bits .and .u8 a b=((a &&& b:Nat):Int)∧bits .or .u8 a b=((a ||| b:Nat):Int)∧bits .xor .u8 a b=((a ^^^ b:Nat):Int):=
 bits_nat_full .u8 (fun n h=>by rw[IntKind.wrap_u8];simp only[IntKind.bits] at h;omega) a b ha hb
theorem bits_u32 (a b:Nat) (ha:a<4294967296) (hb:b<4294967296):bits .and .u32 a b=((a &&& b:Nat):Int)∧bits .or .u32 a b=((a ||| b:Nat):Int)∧bits .xor .u32 a b=((a ^^^ b:Nat):Int):=
 bits_nat_full .u32 (fun n h=>by rw[IntKind.wrap_u32];simp only[IntKind.bits] at h;omega) a b ha hb
theorem u8and1N (a:Nat) (ha:a<256):bits .and .u8 a 1=((a % 2:Nat):Int):=by
 have:=(bits_u8 a 1 ha (by decide)).1
 rw[Nat.and_one_is_mod] at this;exact this
theorem or_shift (a b k:Nat) (ha:a<2^k):a ||| b * 2^k=a+2^k * b:=by
 rw[Nat.or_comm,Nat.mul_comm,Nat.add_comm]
 exact (Nat.two_pow_add_eq_or_of_lt ha b).symm
def str (l:List UInt8):ByteArray:=⟨l.toArray⟩
theorem str_inj {l m:List UInt8} (h:str l=str m):l=m:=by
 have:=congrArg (fun b:ByteArray=>b.data.toList) h
 simpa[str] using this
theorem str_toList (l:List UInt8):(str l).toList=l:=ByteArray.toList_mk l
theorem str_size (l:List UInt8):(str l).size=l.length:=by simp[str,ByteArray.size]
theorem str_eq (a b:List UInt8):((str a).toList==(str b).toList)=decide (a=b):=by rw[str_toList,str_toList];exact (Bool.eq_iff_iff.2 (by simp))
theorem run_str {P:Program} {w:World} {v:Value} {n:Nat} {bs:List UInt8} (h:Sees w 1 v n (Bs bs)) (src dst e:TypeId) (hs:P.underlying src=some (.slice e)) (he:P.underlying e=some (.int .u8)) (hd:P.underlying dst=some .string):
  (convert src dst v).run P w=.ok (.string (str bs)) w:=by
 obtain⟨hl,ao,cap,rfl,hc,hno,hcells⟩:=h
 rw[run_convert_bytes_string w src dst e ao n cap hs he hd]
 cases ao with
 | none=>
  obtain⟨rfl,rfl⟩:=hno rfl
  have:bs=[]:=List.eq_nil_of_length_eq_zero (by simpa[Bs] using hl)
  subst this
  rfl
 | some ad=>
  have h1:=run_loadCells_list (P:=P) (w:=w) ad (Bs bs) (hcells ad rfl)
  have h2:(Bs bs)=(bs.map fun c=>(c.toNat:Int)).map (Value.int .u8):=by simp[Bs,Bc]
  rw[hl,Nat.mul_one,h2] at h1
  rw[run_bytesToString w ad n cap _ h1,foldl_push_bytes]
  simp[str,Function.comp_def]
end Go.Aq
namespace Go.Proofs.YtlidiclfpklliaaGreatDoor
open Go.RowKit Go.Aq
theorem run_str8 {w:World} {v:Value} {n:Nat} {bs:List UInt8} (h:Sees w 1 v n (Bs bs)):(convert 36 9 v).run Tryz.prog w=.ok (.string (str bs)) w:=
 run_str h _ _ _ Tryz.underlying36 Tryz.underlying5 Tryz.underlying9
end Go.Proofs.YtlidiclfpklliaaGreatDoor
namespace Go.Aq.Fy
open Go.Aq Go.RowKit
abbrev Nm:=List UInt8
section
variable {α β:Type}
def lookK (s:Nm):List (Nm×α)→Option α
 | []=>none
 | (k,v)::l=>if k=s then some v else lookK s l
def insK (s:Nm) (v:α):List (Nm×α)→List (Nm×α)
 | []=>[(s,v)]
 | (k,x)::l=>if k=s then (s,v)::l else if s<k then (s,v)::(k,x)::l else (k,x)::insK s v l
def delK (s:Nm) (l:List (Nm×α)):List (Nm×α):=l.filter fun p=>!decide (p.1=s)
def Asc (l:List (Nm×α)):Prop:=l.Pairwise fun p q=>p.1<q.1
theorem nlt_of {a b:Nm} (h1:a≠b) (h2:¬b<a):a<b:=by
 rcases List.le_iff_lt_or_eq.1 (List.not_lt.1 h2) with h | h
 ·exact h
 ·exact absurd h h1
theorem asc_nil:Asc ([]:List (Nm×α)):=List.Pairwise.nil
theorem mem_ins {s:Nm} {v:α}:∀{l:List (Nm×α)} {p:Nm×α},p∈insK s v l→p=(s,v)∨p∈l
 | [],p,h=>by simp only[insK,List.mem_singleton] at h;exact .inl h
 | (k,x)::l,p,h=>by
  unfold insK at h
  split at h
  ·rcases List.mem_cons.1 h with h | h
   ·exact .inl h
   ·exact .inr (.tail _ h)
  ·split at h
   ·rcases List.mem_cons.1 h with h | h
    ·exact .inl h
    ·exact .inr h
   ·rcases List.mem_cons.1 h with h | h
    ·exact .inr (by rw[h];exact .head _)
    ·rcases mem_ins h with h | h
     ·exact .inl h
     ·exact .inr (.tail _ h)
theorem asc_ins (s:Nm) (v:α):∀{l:List (Nm×α)},Asc l→Asc (insK s v l)
 | [],_=>List.pairwise_singleton _ _
 | (k,x)::l,h=>by
  obtain⟨h1,h2⟩:=List.pairwise_cons.1 h
  unfold insK
  split
  ·rename_i e;subst e;exact List.pairwise_cons.2 ⟨h1,h2⟩
  ·split
   ·rename_i hlt
    refine List.pairwise_cons.2 ⟨fun p hp=>?_,h⟩
    rcases List.mem_cons.1 hp with rfl | hp
    ·exact hlt
    ·exact List.lt_trans hlt (h1 p hp)
   ·rename_i hne hlt
    refine List.pairwise_cons.2 ⟨fun p hp=>?_,asc_ins s v h2⟩
    rcases mem_ins hp with rfl | hp
    ·exact nlt_of hne hlt
    ·exact h1 p hp
theorem asc_del (s:Nm) {l:List (Nm×α)} (h:Asc l):Asc (delK s l):=h.filter _
theorem look_mem {s:Nm} {v:α}:∀{l:List (Nm×α)},lookK s l=some v→(s,v)∈l
 | [],h=>by cases h
 | (k,x)::l,h=>by
  unfold lookK at h
  split at h
  ·rename_i e;subst e;cases h;exact .head _
  ·exact .tail _ (look_mem h)
theorem look_of_mem {s:Nm} {v:α}:∀{l:List (Nm×α)},Asc l→(s,v)∈l→lookK s l=some v
 | [],_,h=>by cases h
 | (k,x)::l,ha,h=>by
  obtain⟨h1,h2⟩:=List.pairwise_cons.1 ha
  unfold lookK
  rcases List.mem_cons.1 h with e | h
  ·cases e;rw[if_pos rfl]
  ·rw[if_neg (fun e=>?_),look_of_mem h2 h]
   have:=h1 _ h
   simp only[e] at this
   exact List.lt_irrefl _ this
theorem look_none {s:Nm}:∀{l:List (Nm×α)},lookK s l=none↔∀p∈l,p.1≠s
 | []=>by simp[lookK]
 | (k,x)::l=>by
  unfold lookK
  split
  ·rename_i e;simp[e]
  ·rename_i e;rw[look_none];simp[e]
theorem look_ins_same (s:Nm) (v:α):∀l:List (Nm×α),lookK s (insK s v l)=some v
 | []=>by simp[insK,lookK]
 | (k,x)::l=>by
  unfold insK
  split
  ·simp[lookK]
  ·split
   ·simp[lookK]
   ·rename_i h1 _;simp[lookK,h1,look_ins_same s v l]
theorem look_ins_ne {s s':Nm} (h:s'≠s) (v:α):∀l:List (Nm×α),lookK s' (insK s v l)=lookK s' l
 | []=>by simp[insK,lookK,Ne.symm h]
 | (k,x)::l=>by
  unfold insK
  split
  ·rename_i e;subst e;simp[lookK,Ne.symm h]
  ·split
   ·simp[lookK,Ne.symm h]
   ·simp[lookK,look_ins_ne h v l]
theorem look_del_same (s:Nm) (l:List (Nm×α)):lookK s (delK s l)=none:=by
 rw[look_none]
 intro p hp
 simpa[delK] using (List.mem_filter.1 hp).2
theorem look_del_ne {s s':Nm} (h:s'≠s):∀l:List (Nm×α),lookK s' (delK s l)=lookK s' l
 | []=>rfl
 | (k,x)::l=>by
  have ih:=look_del_ne h l
  unfold delK at *
  by_cases hk:k=s
  ·subst hk
   rw[List.filter_cons_of_neg (by simp)]
   simp[lookK,Ne.symm h,ih]
  ·rw[List.filter_cons_of_pos (by simp[hk])]
   simp[lookK,ih]
theorem asc_ext:∀{l m:List (Nm×α)},Asc l→Asc m→(∀s,lookK s l=lookK s m)→l=m:=by
 intro l m hl hm h
 refine List.Perm.eq_of_pairwise (le:=fun p q:Nm×α=>p.1<q.1) (fun a b _ _ h1 h2=>absurd (List.lt_trans h1 h2) (List.lt_irrefl _)) hl hm ?_
 refine (List.perm_ext_iff_of_nodup (hl.imp fun {a b} hab e=>by rw[e] at hab;exact List.lt_irrefl _ hab) (hm.imp fun {a b} hab e=>by rw[e] at hab;exact List.lt_irrefl _ hab)).2 fun p=>?_
 obtain⟨s,v⟩:=p
 exact⟨fun hp=>look_mem (by rw[←h];exact look_of_mem hl hp),fun hp=>look_mem (by rw[h];exact look_of_mem hm hp)⟩
theorem ins_length_new (s:Nm) (v:α):∀{l:List (Nm×α)},lookK s l=none→(insK s v l).length=l.length+1
 | [],_=>rfl
 | (k,x)::l,h=>by
  unfold lookK at h
  split at h
  ·cases h
  ·rename_i hk
   unfold insK
   rw[if_neg hk]
   split
   ·rfl
   ·simp[ins_length_new s v h]
theorem ins_length_old (s:Nm) (v:α):∀{l:List (Nm×α)},Asc l→lookK s l≠none→(insK s v l).length=l.length
 | [],_,h=>absurd rfl h
 | (k,x)::l,ha,h=>by
  obtain⟨h1,h2⟩:=List.pairwise_cons.1 ha
  unfold lookK at h
  unfold insK
  split
  ·rfl
  ·rename_i hk
   rw[if_neg hk] at h
   split
   ·rename_i hlt
    exfalso
    cases hv:lookK s l with
    | none=>exact h hv
    | some v'=>exact List.lt_irrefl _ (List.lt_trans hlt (h1 _ (look_mem hv)))
   ·simp[ins_length_old s v h2 h]
theorem ins_length_le (s:Nm) (v:α) (l:List (Nm×α)):(insK s v l).length≤l.length+1:=by
 induction l with
 | nil=>simp[insK]
 | cons p l ih=>
  obtain⟨k,x⟩:=p
  unfold insK
  split
  ·simp
  ·split
   ·simp
   ·simp;omega
theorem del_length_le (s:Nm) (l:List (Nm×α)):(delK s l).length≤l.length:=List.length_filter_le _ _
theorem mem_del {s:Nm} {l:List (Nm×α)} {p:Nm×α} (h:p∈delK s l):p∈l∧p.1≠s:=by
 obtain⟨h1,h2⟩:=List.mem_filter.1 h
 exact⟨h1,by simpa using h2⟩
def Two (R:Nm→α→β→Prop):List (Nm×α)→List (Nm×β)→Prop
 | [],[]=>True
 | (k,x)::l,(k',y)::m=>k=k'∧R k x y∧Two R l m
 | _,_=>False
theorem Two.nil {R:Nm→α→β→Prop}:Two R [] []:=trivial
theorem Two.keys {R:Nm→α→β→Prop}:∀{l:List (Nm×α)} {m:List (Nm×β)},Two R l m→l.map (·.1)=m.map (·.1)
 | [],[],_=>rfl
 | [],_::_,h=>h.elim
 | _::_,[],h=>h.elim
 | (k,x)::l,(k',y)::m,h=>by
  obtain⟨rfl,_,h⟩:=h
  simp[h.keys]
theorem Two.len {R:Nm→α→β→Prop} {l:List (Nm×α)} {m:List (Nm×β)} (h:Two R l m):l.length=m.length:=by
 have:=congrArg List.length h.keys
 simpa using this
theorem Two.imp {R R':Nm→α→β→Prop} (hR:∀k x y,R k x y→R' k x y):∀{l:List (Nm×α)} {m:List (Nm×β)},Two R l m→Two R' l m
 | [],[],_=>trivial
 | [],_::_,h=>h.elim
 | _::_,[],h=>h.elim
 | (k,x)::l,(k',y)::m,h=>⟨h.1,hR _ _ _ h.2.1,h.2.2.imp hR⟩
theorem Two.ins {R:Nm→α→β→Prop} {s:Nm} {v:α} {v':β} (hv:R s v v'):∀{l:List (Nm×α)} {m:List (Nm×β)},Two R l m→Two R (insK s v l) (insK s v' m)
 | [],[],_=>⟨rfl,hv,trivial⟩
 | [],_::_,h=>h.elim
 | _::_,[],h=>h.elim
 | (k,x)::l,(k',y)::m,h=>by
  obtain⟨rfl,h1,h2⟩:=h
  unfold insK
  by_cases e1:k=s
  ·simp only[e1,if_true];exact⟨rfl,hv,h2⟩
  ·simp only[e1,if_false]
   by_cases e2:s<k
   ·simp only[e2,if_true];exact⟨rfl,hv,rfl,h1,h2⟩
   ·simp only[e2,if_false];exact⟨rfl,h1,h2.ins hv⟩
theorem Two.del {R:Nm→α→β→Prop} (s:Nm):∀{l:List (Nm×α)} {m:List (Nm×β)},Two R l m→Two R (delK s l) (delK s m)
 | [],[],_=>trivial
 | [],_::_,h=>h.elim
 | _::_,[],h=>h.elim
 | (k,x)::l,(k',y)::m,h=>by
  obtain⟨rfl,h1,h2⟩:=h
  have ih:=h2.del s
  unfold delK at *
  by_cases e:k=s
  ·rw[List.filter_cons_of_neg (by simp[e]),List.filter_cons_of_neg (by simp[e])];exact ih
  ·rw[List.filter_cons_of_pos (by simp[e]),List.filter_cons_of_pos (by simp[e])];exact⟨rfl,h1,ih⟩
theorem Two.look {R:Nm→α→β→Prop} (s:Nm):∀{l:List (Nm×α)} {m:List (Nm×β)},Two R l m→(lookK s l=none∧lookK s m=none)∨∃x y,lookK s l=some x∧lookK s m=some y∧R s x y
 | [],[],_=>.inl ⟨rfl,rfl⟩
 | [],_::_,h=>h.elim
 | _::_,[],h=>h.elim
 | (k,x)::l,(k',y)::m,h=>by
  obtain⟨rfl,h1,h2⟩:=h
  unfold lookK
  by_cases e:k=s
  ·subst e;simp only[if_true];exact .inr ⟨x,y,rfl,rfl,h1⟩
  ·simp only[e,if_false];exact h2.look s
theorem Two.asc {R:Nm→α→β→Prop} {l:List (Nm×α)} {m:List (Nm×β)} (h:Two R l m) (ha:Asc l):Asc m:=by
 have h1:(l.map (·.1)).Pairwise (·<·):=List.pairwise_map.2 ha
 rw[h.keys] at h1
 exact List.pairwise_map.1 h1
theorem Two.mem {R:Nm→α→β→Prop}:∀{l:List (Nm×α)} {m:List (Nm×β)},Two R l m→∀{s:Nm} {y:β},(s,y)∈m→∃x,(s,x)∈l∧R s x y
 | [],[],_,_,_,h=>by cases h
 | [],_::_,h,_,_,_=>h.elim
 | _::_,[],h,_,_,_=>h.elim
 | (k,x)::l,(k',y)::m,h,s,z,hm=>by
  obtain⟨rfl,h1,h2⟩:=h
  rcases List.mem_cons.1 hm with e | hm
  ·cases e;exact⟨x,.head _,h1⟩
  ·obtain⟨x',h3,h4⟩:=h2.mem hm;exact⟨x',.tail _ h3,h4⟩
end
def heldR (v:Value):Option (DataW Value×List MemPlace):=some (.held v,[])
def datS (l:List (Nm×Value)):DataW Value:=.map (l.map fun p=>(Lit.string p.1,.held p.2))
theorem before_iff:∀a b:Nm,bytesBefore a b=true↔a<b
 | [],[]=>by simp[bytesBefore]
 | [],_::_=>by simp[bytesBefore]
 | _::_,[]=>by simp[bytesBefore]
 | a::r,b::s=>by
  unfold bytesBefore
  rw[List.cons_lt_cons_iff]
  simp[before_iff r s]
theorem str_key (s:Nm):WideAt.IsKeyLit (.string s):=by simp[WideAt.IsKeyLit]
theorem canonS {l:List (Nm×Value)} (h:Asc l):Maps.Canon (datS l):=
 ⟨_,rfl,List.pairwise_map.2 (h.imp fun {p q} hpq=>(before_iff _ _).2 hpq),fun p hp=>by obtain⟨q,_,rfl⟩:=List.mem_map.1 hp;exact str_key _⟩
theorem sameKey_s (a b:Nm):(Lit.string a).sameKey (.string b)=decide (a=b):=Bool.eq_iff_iff.2 (by simp[Lit.sameKey])
theorem datS_look (l:List (Nm×Value)) (s:Nm) (z:DataW Value):(datS l).atKey (.string s) z=(match lookK s l with | some v=>.held v | none=>z)∧Maps.has (datS l) (.string s)=(lookK s l).isSome:=by
 induction l with
 | nil=>exact⟨rfl,rfl⟩
 | cons p l ih=>
  obtain⟨k,v⟩:=p
  obtain⟨h1,h2⟩:=ih
  unfold datS DataW.atKey at h1 ⊢
  rw[Maps.has_eq]
  unfold datS at h2
  rw[Maps.has_eq] at h2
  simp only[List.map_cons,List.find?_cons,List.any_cons,sameKey_s,lookK]
  by_cases e:k=s
  ·simp[e]
  ·simp only[e,decide_false,Bool.false_or,if_false]
   exact⟨h1,h2⟩
theorem datS_other (l:List (Nm×Value)) (k:Lit) (hk:∀s,k≠.string s):Maps.has (datS l) k=false:=by
 unfold datS
 rw[Maps.has_eq,List.any_eq_false]
 intro p hp
 obtain⟨q,_,rfl⟩:=List.mem_map.1 hp
 cases k <;> simp[Lit.sameKey]
 rename_i s
 exact absurd rfl (hk s)
theorem datS_put {l:List (Nm×Value)} (h:Asc l) (s:Nm) (v:Value) (hc:Maps.Canon ((datS l).put (.string s) (.held v))):(datS l).put (.string s) (.held v)=datS (insK s v l):=by
 have hm:Maps.IsMap (datS l):=⟨_,rfl⟩
 refine Maps.ext hc (canonS (asc_ins s v h)) (fun k=>?_) (fun k z hk=>?_)
 ·by_cases e:k=.string s
  ·subst e;rw[Maps.has_put_same hm (str_key s),(datS_look _ s .nil).2,look_ins_same];rfl
  ·rw[Maps.has_put_other e]
   by_cases e':∃t,k=.string t
   ·obtain⟨t,rfl⟩:=e'
    rw[(datS_look _ t .nil).2,(datS_look _ t .nil).2,look_ins_ne (fun e2=>e (by rw[e2]))]
   ·rw[datS_other _ _ (fun t e2=>e' ⟨t,e2⟩),datS_other _ _ (fun t e2=>e' ⟨t,e2⟩)]
 ·by_cases e:k=.string s
  ·subst e;rw[Maps.atKey_put_same hm (str_key s),(datS_look _ s z).1,look_ins_same]
  ·rw[Maps.atKey_put_other e]
   by_cases e':∃t,k=.string t
   ·obtain⟨t,rfl⟩:=e'
    rw[(datS_look _ t z).1,(datS_look _ t z).1,look_ins_ne (fun e2=>e (by rw[e2]))]
   ·rw[Maps.has_put_other e,datS_other _ _ (fun t e2=>e' ⟨t,e2⟩)] at hk;cases hk
theorem datS_del {l:List (Nm×Value)} (h:Asc l) (s:Nm) (hc:Maps.Canon ((datS l).del (.string s))):(datS l).del (.string s)=datS (delK s l):=by
 refine Maps.ext hc (canonS (asc_del s h)) (fun k=>?_) (fun k z hk=>?_)
 ·by_cases e:k=.string s
  ·subst e;rw[Maps.has_del_same,(datS_look _ s .nil).2,look_del_same];rfl
  ·rw[Maps.has_del_other e]
   by_cases e':∃t,k=.string t
   ·obtain⟨t,rfl⟩:=e'
    rw[(datS_look _ t .nil).2,(datS_look _ t .nil).2,look_del_ne (fun e2=>e (by rw[e2]))]
   ·rw[datS_other _ _ (fun t e2=>e' ⟨t,e2⟩),datS_other _ _ (fun t e2=>e' ⟨t,e2⟩)]
 ·by_cases e:k=.string s
  ·subst e;rw[Maps.has_del_same] at hk;cases hk
  ·rw[Maps.atKey_del_other e]
   by_cases e':∃t,k=.string t
   ·obtain⟨t,rfl⟩:=e'
    rw[(datS_look _ t z).1,(datS_look _ t z).1,look_del_ne (fun e2=>e (by rw[e2]))]
   ·rw[Maps.has_del_other e,datS_other _ _ (fun t e2=>e' ⟨t,e2⟩)] at hk;cases hk
theorem datS_size (l:List (Nm×Value)):Maps.size (datS l)=l.length:=by simp[datS,Maps.size_eq]
theorem datS_keys (l:List (Nm×Value)):strKeys (datS l)=l.map (·.1):=by simp[datS,strKeys,strOf]
theorem sorted_asc {α:Type} {l:List (Nm×α)} (h:Asc l) {ss:List Nm} (hp:ss.Perm (l.map (·.1))):ss.mergeSort (fun x y=>decide (x≤y))=l.map (·.1):=by
 have tr:∀a b c:Nm,decide (a≤b)=true→decide (b≤c)=true→decide (a≤c)=true:=fun a b c h1 h2=>by simp only[decide_eq_true_eq] at *;exact List.le_trans h1 h2
 have tot:∀a b:Nm,(decide (a≤b) || decide (b≤a))=true:=fun a b=>by simp only[Bool.or_eq_true,decide_eq_true_eq];exact List.le_total a b
 refine List.Perm.eq_of_pairwise (le:=fun a b=>decide (a≤b)=true) (fun a b _ _ h1 h2=>?_) (List.pairwise_mergeSort tr tot ss) ?_ ((List.mergeSort_perm ss _).trans hp)
 ·simp only[decide_eq_true_eq] at h1 h2;exact List.le_antisymm h1 h2
 ·refine List.pairwise_map.2 (h.imp fun {p q} hpq=>?_)
  rw[decide_eq_true_eq]
  exact List.le_of_lt hpq
structure MapS (P:Program) (k:TypeId) (w:World) (b:Nat) (l:List (Nm×Value)):Prop where
 asc:Asc l
 short:∀p∈l,p.1.length≤1048576
 owns:w.ownsMap P k heldR b l.length (datS l)
section
variable {P:Program} {k:TypeId} {w w':World} {b:Nat} {l:List (Nm×Value)}
theorem own_chg {w w':World} {b n:Nat} {D:DataW Value} {S:List Nat} (h:w.ownsMap P k heldR b n D) (c:Chg S w w') (hb:b∉S):w'.ownsMap P k heldR b n D:=by
 have hlt:=h.lt
 obtain⟨es,clock,h1,F,hs,hD⟩:=h
 exact⟨es,clock,by rw[c.block b hlt hb];exact h1,F,hs,hD⟩
theorem own_size {n:Nat} {D:DataW Value} (h:w.ownsMap P k heldR b n D):w.ownsMap P k heldR b (Maps.size D) D:=by
 obtain⟨es,clock,h1,F,hs,rfl⟩:=h
 exact⟨es,clock,h1,F,by rw[Maps.size_eq,length_read];exact Nat.le_refl _,rfl⟩
theorem MapS.lt (h:MapS P k w b l):b<w.heap.size:=h.owns.lt
theorem MapS.chg {S:List Nat} (h:MapS P k w b l) (c:Chg S w w') (hb:b∉S):MapS P k w' b l:=⟨h.asc,h.short,own_chg h.owns c hb⟩
theorem MapS.chg0 (h:MapS P k w b l) (c:Chg [] w w'):MapS P k w' b l:=h.chg c (by simp)
theorem MapS.made (P:Program) (k:TypeId) (w:World):MapS P k (w.alloc (.map #[] 0)) w.heap.size []:=⟨asc_nil,by simp,World.ownsMap_made _ _ _ _⟩
theorem chg_grown {w w':World} {b:Nat} (h:w.grownBy w' (some b)):Chg [b] w w':=Chg.of_grown h
variable (hk:P.underlying k=some .string)
include hk
theorem key_s (s:Nm) (hs:s.length≤1048576):keyOf P k (.string (str s))=some (.string s):=by
 have:=Go.WideMaps.keyOf_string_mk (P:=P) (s:=str s) hk (by rw[str_size];simp only[maxLen];omega)
 simpa[str] using this
theorem MapS.look (h:MapS P k w b l) {t e:TypeId} (ht:P.underlying t=some (.map k e)) {z:Value} (hz:(zeroValue e).run P w=.ok z w) (s:Nm) (hs:s.length≤1048576):
  (Instr.lookup t (.map (some b)) (.string (str s)) false).run P w=.ok ((lookK s l).getD z) w∧
  (Instr.lookup t (.map (some b)) (.string (str s)) true).run P w=.ok (.tuple #[(lookK s l).getD z,.bool (lookK s l).isSome]) w:=by
 have K:=Maps.string_keyed hk
 have hl:=datS_look l s (.held z)
 have get:∀{v:Value},(match lookK s l with | some v=>DataW.held v | none=>.held z)=.held v→v=(lookK s l).getD z:=fun {v} hv=>by
  cases h2:lookK s l <;> rw[h2] at hv <;> (simp only[DataW.held.injEq] at hv;simp[hv])
 constructor
 ·obtain⟨v,ps,hr,hv⟩:=h.owns.lookup K ht hz (zd:=.held z) (zp:=[]) rfl (key_s hk s hs)
  rw[hl.1] at hv
  simp only[heldR,Option.some.injEq,Prod.mk.injEq] at hv
  rw[hr,←get hv.1.symm]
 ·obtain⟨v,ps,hr,hv⟩:=h.owns.look_ok K ht hz (zd:=.held z) (zp:=[]) rfl (key_s hk s hs)
  rw[hl.1] at hv
  simp only[heldR,Option.some.injEq,Prod.mk.injEq] at hv
  rw[hr,←get hv.1.symm,hl.2]
theorem MapS.put (h:MapS P k w b l) {t e:TypeId} (ht:P.underlying t=some (.map k e)) (hn:l.length≤1000000) (s:Nm) (hs:s.length≤1048576) (v:Value):
  ∃w',(Instr.mapUpdate t (.map (some b)) (.string (str s)) v).run P w=.ok () w'∧MapS P k w' b (insK s v l)∧Chg [b] w w':=by
 obtain⟨w',hr,ho,hg⟩:=h.owns.update (Maps.string_keyed hk) ht (by simp only[maxLen];omega) (key_s hk s hs) (show heldR v=some (.held v,[]) from rfl)
 have e:=datS_put h.asc s v (ho.canon (Maps.string_keyed hk))
 rw[e] at ho
 have ho':=own_size ho
 rw[datS_size] at ho'
 refine⟨w',hr,⟨asc_ins s v h.asc,fun p hp=>?_,ho'⟩,chg_grown hg⟩
 rcases mem_ins hp with rfl | hp
 ·exact hs
 ·exact h.short p hp
theorem MapS.drop (h:MapS P k w b l) {t e:TypeId} (ht:P.underlying t=some (.map k e)) (s:Nm) (hs:s.length≤1048576) (ty:TypeId):
  ∃w',(Builtin.delete_ #[t,k] ty #[.map (some b),.string (str s)]).run P w=.ok (.tuple #[]) w'∧MapS P k w' b (delK s l)∧Chg [b] w w':=by
 obtain⟨w',hr,ho,hg⟩:=h.owns.drop (Maps.string_keyed hk) ht (key_s hk s hs) ty
 have e:=datS_del h.asc s (ho.canon (Maps.string_keyed hk))
 rw[e] at ho
 have ho':=own_size ho
 rw[datS_size] at ho'
 exact⟨w',hr,⟨asc_del s h.asc,fun p hp=>h.short p (mem_del hp).1,ho'⟩,chg_grown hg.grown⟩
end
theorem MapS.len {P:Program} {k:TypeId} {w:World} {b:Nat} {l:List (Nm×Value)} (h:MapS P k w b l) {t e:TypeId} (ht:P.underlying t=some (.map k e)) (ty:TypeId):
  (Builtin.len_ #[t] ty #[.map (some b)]).run P w=.ok (.int .i64 l.length) w:=by
 have:=h.owns.len ht ty
 rw[datS_size] at this
 exact this
end Go.Aq.Fy
