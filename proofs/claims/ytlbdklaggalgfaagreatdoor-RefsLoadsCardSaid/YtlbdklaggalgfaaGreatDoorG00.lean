/- Pre Base -/
import Derived.Lib.Hide
import Derived.WalkKit
import Derived.BigRegion
import Derived.Laws.AppendOwnNone
import Derived.Laws.BytesString
import Derived.Deep.Draws
namespace Go.Aq
open Go.RowKit
theorem yG {p q:Prop} (x:q) (h:p=q:=by (try simp only[Act.put,List.getElem_toArray,List.getElem_cons_succ,List.getElem_cons_zero,List.setIfInBounds_toArray,List.set_cons_zero,List.set_cons_succ]);rfl):p:=h.mpr x
theorem zH {p:Prop} (h:p):Hid p:=h
theorem zA {a b:Prop} (x:a) (y:b):Hid (a∧b):=⟨x,y⟩
theorem zB {a b c:Prop} (x:a) (y:b) (z:c):Hid (a∧b∧c):=⟨x,y,z⟩
theorem zC {a b c d:Prop} (x:a) (y:b) (z:c) (u:d):Hid (a∧b∧c∧d):=⟨x,y,z,u⟩
theorem zD {a b c d e:Prop} (x:a) (y:b) (z:c) (u:d) (v:e):Hid (a∧b∧c∧d∧e):=⟨x,y,z,u,v⟩
theorem zE {a b c d e f:Prop} (x:a) (y:b) (z:c) (u:d) (v:e) (w:f):Hid (a∧b∧c∧d∧e∧f):=⟨x,y,z,u,v,w⟩
theorem zF {a b c d e f g:Prop} (x:a) (y:b) (z:c) (u:d) (v:e) (w:f) (s:g):Hid (a∧b∧c∧d∧e∧f∧g):=⟨x,y,z,u,v,w,s⟩
theorem zG {a b c d e f g h:Prop} (x:a) (y:b) (z:c) (u:d) (v:e) (w:f) (s:g) (t:h):Hid (a∧b∧c∧d∧e∧f∧g∧h):=⟨x,y,z,u,v,w,s,t⟩
theorem jB {α:Type _} [BEq α] [LawfulBEq α] {a b:α} (h:a≠b):(a==b)=false:=beq_eq_false_iff_ne.2 h
theorem jN {α:Type _} [BEq α] [LawfulBEq α] {a b:α} (h:a≠b):(a != b)=true:=bne_iff_ne.2 h
def Blk (w:World) (p:Nat) (cs:Array Value) (e:TypeId):Prop:=w.heap[p]?=some (.cells cs e (0,0))
theorem Blk.lt {w:World} {p:Nat} {cs:Array Value} {e:TypeId} (h:Blk w p cs e):p<w.heap.size:=(Array.getElem?_eq_some_iff.1 h).1
theorem Blk.cell {w:World} {p:Nat} {cs:Array Value} {e:TypeId} (h:Blk w p cs e) (i:Nat):w.cell? ⟨p,i,none⟩=cs[i]?:=by
 unfold Blk at h;simp[World.cell?,h]
theorem Blk.frozen {w:World} {p:Nat} {cs:Array Value} {e:TypeId} (h:Blk w p cs e) (i:Nat):w.frozen? ⟨p,i,none⟩=false:=by
 unfold Blk at h;simp[World.frozen?,h]
theorem Blk.new (w:World) (cs:Array Value) (e:TypeId):Blk (w.alloc (.cells cs e)) w.heap.size cs e:=heap_alloc_new w _
theorem Blk.new_at (w:World) (cs:Array Value) (e:TypeId) {k:Nat} (h:w.heap.size=k):Blk (w.alloc (.cells cs e)) k cs e:=by subst h;exact Blk.new w cs e
theorem Blk.alloc {w:World} {p:Nat} {cs:Array Value} {e:TypeId} (h:Blk w p cs e) (o:Obj):Blk (w.alloc o) p cs e:=by
 unfold Blk;rw[Below.heap_alloc _ _ _ h.lt];exact h
theorem Blk.drew {w:World} {p:Nat} {cs:Array Value} {e:TypeId} (h:Blk w p cs e):Blk w.drew p cs e:=h
theorem Blk.set {w:World} {p:Nat} {cs:Array Value} {e:TypeId} (h:Blk w p cs e) (i:Nat) (u:Value):Blk (w.setCell ⟨p,i,none⟩ u) p (cs.setIfInBounds i u) e:=
 heap_setCell_same w p i cs e u h
theorem Blk.set_ne {w:World} {p:Nat} {cs:Array Value} {e:TypeId} (h:Blk w p cs e) {a:Addr} (hne:p≠a.block) (u:Value):Blk (w.setCell a u) p cs e:=by
 unfold Blk;rw[Below.heap_setCell _ _ _ _ hne];exact h
theorem Blk.inj {w:World} {p:Nat} {cs cs':Array Value} {e e':TypeId} (h:Blk w p cs e) (h':Blk w p cs' e'):cs=cs'∧e=e':=by
 unfold Blk at h h';rw[h] at h';simp at h';exact h'
theorem Blk.c1 {w:World} {p:Nat} {a:Value} {e:TypeId} (h:Blk w p #[a] e):w.cell? ⟨p,0,none⟩=some a∧w.frozen? ⟨p,0,none⟩=false:=⟨h.cell 0,h.frozen 0⟩
theorem Blk.c2 {w:World} {p:Nat} {a b:Value} {e:TypeId} (h:Blk w p #[a,b] e):
  (w.cell? ⟨p,0,none⟩=some a∧w.cell? ⟨p,1,none⟩=some b)∧w.frozen? ⟨p,0,none⟩=false∧w.frozen? ⟨p,1,none⟩=false:=
 ⟨⟨h.cell 0,h.cell 1⟩,h.frozen 0,h.frozen 1⟩
theorem Blk.c3 {w:World} {p:Nat} {a b c:Value} {e:TypeId} (h:Blk w p #[a,b,c] e):
  (w.cell? ⟨p,0,none⟩=some a∧w.cell? ⟨p,1,none⟩=some b∧w.cell? ⟨p,2,none⟩=some c)∧w.frozen? ⟨p,0,none⟩=false∧w.frozen? ⟨p,1,none⟩=false∧w.frozen? ⟨p,2,none⟩=false:=
 ⟨⟨h.cell 0,h.cell 1,h.cell 2⟩,h.frozen 0,h.frozen 1,h.frozen 2⟩
structure Chg (S:List Nat) (w w':World):Prop where
 os:w'.os=w.os
 tape:w'.tape=w.tape
 output:w'.output=w.output
 size:w.heap.size≤w'.heap.size
 block:∀k,k<w.heap.size→k∉S→w'.heap[k]?=w.heap[k]?
theorem Chg.refl (S:List Nat) (w:World):Chg S w w:=⟨rfl,rfl,rfl,Nat.le_refl _,fun _ _ _=>rfl⟩
theorem Chg.trans {S T:List Nat} {a b c:World} (h:Chg S a b) (k:Chg T b c) (hT:∀i∈T,i∈S∨a.heap.size≤i):Chg S a c:=
 ⟨k.os.trans h.os,k.tape.trans h.tape,k.output.trans h.output,Nat.le_trans h.size k.size,fun i hi hS=>
  (k.block i (Nat.lt_of_lt_of_le hi h.size) (fun e=>by rcases hT i e with h | h;(exact hS h);omega)).trans (h.block i hi hS)⟩
theorem Chg.mono {S T:List Nat} {a b:World} (h:Chg S a b) (hT:∀i∈S,i∈T∨a.heap.size≤i):Chg T a b:=
 ⟨h.os,h.tape,h.output,h.size,fun i hi hS=>h.block i hi (fun e=>by rcases hT i e with h | h;(exact hS h);omega)⟩
theorem Chg.tr {S:List Nat} {a b c:World} (h:Chg S a b) (k:Chg S b c):Chg S a c:=h.trans k fun _ hi=>.inl hi
theorem Chg.nil {S:List Nat} {a b c:World} (h:Chg S a b) (k:Chg [] b c):Chg S a c:=h.trans k (by simp)
theorem Chg.toS {S:List Nat} {a b:World} (h:Chg [] a b):Chg S a b:=h.mono (by simp)
theorem Chg.drew {S:List Nat} {a w:World} (h:Chg S a w):Chg S a w.drew:=⟨h.os,h.tape,h.output,h.size,h.block⟩
theorem Chg.drewN {S:List Nat} {a w:World} (h:Chg S a w) (q:Nat):Chg S a (w.drewN q):=⟨h.os,h.tape,h.output,h.size,h.block⟩
theorem Chg.alloc {S:List Nat} {a w:World} (h:Chg S a w) (o:Obj):Chg S a (w.alloc o):=
 h.trans (T:=[]) ⟨rfl,rfl,rfl,by simp,fun k hk _=>Below.heap_alloc _ _ _ hk⟩ (by simp)
theorem Chg.setCell {S:List Nat} {a w:World} (h:Chg S a w) {p:Addr} (hp:p.block∈S∨a.heap.size≤p.block) (u:Value):Chg S a (w.setCell p u):=
 h.trans (T:=[p.block]) ⟨rfl,rfl,rfl,by simp[World.setCell],fun k _ hk=>Below.heap_setCell _ _ _ _ (by simpa using hk)⟩ (by simpa using hp)
theorem Chg.of_grown {w w':World} {row:Option Nat} (h:w.grownBy w' row):Chg row.toList w w':=
 ⟨h.os,h.tape,h.output,h.size,fun k hk hS=>h.block k hk (fun e=>hS (by rw[←e];simp))⟩
theorem Chg.of_below {w w':World} (h:Below w.heap.size w w'):Chg [] w w':=⟨h.os,h.tape,h.output,h.size,fun k hk _=>h.block k hk⟩
theorem Chg.below {S:List Nat} {w w':World} (h:Chg S w w') {B:Nat} (hB:B≤w.heap.size) (hS:∀k∈S,B≤k):Below B w w':=
 ⟨h.os,h.tape,h.output,h.size,fun k hk=>h.block k (by omega) (fun e=>by have:=hS k e;omega)⟩
theorem Chg.below0 {w w':World} (h:Chg [] w w'):Below w.heap.size w w':=h.below (Nat.le_refl _) (by simp)
theorem Chg.cell {S:List Nat} {w w':World} (h:Chg S w w') {a:Addr} (ha:a.block<w.heap.size) (hS:a.block∉S):w'.cell? a=w.cell? a:=World.cell?_of_block (h.block _ ha hS)
theorem Chg.cell_some {S:List Nat} {w w':World} (h:Chg S w w') {a:Addr} {v:Value} (hc:w.cell? a=some v) (hS:a.block∉S):w'.cell? a=some v:=
 (h.cell (World.block_lt_of_cell? w a hc) hS).trans hc
theorem Blk.chg {w w':World} {p:Nat} {cs:Array Value} {e:TypeId} {S:List Nat} (h:Blk w p cs e) (c:Chg S w w') (hp:p∉S):Blk w' p cs e:=by
 unfold Blk;rw[c.block p h.lt hp];exact h
theorem Blk.chg0 {w w':World} {p:Nat} {cs:Array Value} {e:TypeId} (h:Blk w p cs e) (c:Chg [] w w'):Blk w' p cs e:=h.chg c (by simp)
def Disj (S T:List Nat):Prop:=∀k∈S,k∉T
theorem Disj.symm {S T:List Nat} (h:Disj S T):Disj T S:=fun k hk hs=>h k hs hk
def In (w:World) (S:List Nat):Prop:=∀k∈S,k<w.heap.size
theorem In.chg {w w':World} {S T:List Nat} (h:In w S) (c:Chg T w w'):In w' S:=fun k hk=>Nat.lt_of_lt_of_le (h k hk) c.size
structure Upd (S S':List Nat) (w w':World):Prop where
 chg:Chg S w w'
 new:∀k∈S',k∈S∨w.heap.size≤k
theorem Upd.refl (S:List Nat) (w:World):Upd S S w w:=⟨Chg.refl _ _,fun _ h=>.inl h⟩
theorem Upd.trans {S S' S'':List Nat} {a b c:World} (h:Upd S S' a b) (k:Upd S' S'' b c):Upd S S'' a c:=
 ⟨h.chg.trans k.chg h.new,fun i hi=>by
  rcases k.new i hi with h1 | h1
  ·exact h.new i h1
  ·exact .inr (Nat.le_trans h.chg.size h1)⟩
theorem Upd.nil {S S':List Nat} {a b c:World} (h:Upd S S' a b) (k:Chg [] b c):Upd S S' a c:=⟨h.chg.nil k,h.new⟩
theorem Disj.upd {S S' T:List Nat} {w w':World} (h:Disj T S) (u:Upd S S' w w') (ht:In w T):Disj T S':=fun k hk hs=>by
 rcases u.new k hs with h1 | h1
 ·exact h k hk h1
 ·have:=ht k hk;omega
def Own (w:World) (e:TypeId) (size:Nat) (v:Value) (n:Nat) (xs:List Value):Prop:=w.ownsRow 0 e size v n xs
def Sees (w:World) (size:Nat) (v:Value) (n:Nat) (xs:List Value):Prop:=
 xs.length=n * size∧∃ao cap,v=.slice ao n cap∧n≤cap∧(ao=none→n=0∧cap=0)∧∀ad,ao=some ad→∀j u,xs[j]?=some u→w.cell? (ad.add j)=some u
theorem Own.nil (w:World) (e:TypeId) (size:Nat):Own w e size (.slice none 0 0) 0 []:=World.ownsRow_nil w 0 e size
theorem Own.made (w:World) (e:TypeId) (size:Nat):Own (w.alloc (.cells #[] e)) e size (.slice (some ⟨w.heap.size,0,none⟩) 0 0) 0 []:=
 World.ownsRow_made w #[] 0 (Nat.zero_le _) (Nat.zero_le _) (by simp)
theorem Own.len {w:World} {e:TypeId} {size:Nat} {v:Value} {n:Nat} {xs:List Value} (h:Own w e size v n xs):xs.length=n * size:=h.1
theorem Own.shape {w:World} {e:TypeId} {size:Nat} {v:Value} {n:Nat} {xs:List Value} (h:Own w e size v n xs):
  (v=.slice none 0 0∧n=0∧xs=[])∨∃g cap,v=.slice (some ⟨g,0,none⟩) n cap∧n≤cap∧cap≤9223372036854775807∧g<w.heap.size:=by
 rcases h.2 with ⟨rfl,rfl⟩ | ⟨g,cap,cur,rfl,_,hg,h1,h2,_⟩
 ·exact .inl ⟨rfl,rfl,List.eq_nil_of_length_eq_zero (by simpa using h.1)⟩
 ·exact .inr ⟨g,cap,rfl,h1,by simpa[maxLen] using h2,(Array.getElem?_eq_some_iff.1 hg).1⟩
theorem Own.pos {w:World} {e:TypeId} {size:Nat} {v:Value} {n:Nat} {xs:List Value} (h:Own w e size v n xs) (hn:0<n):
  ∃g cap,v=.slice (some ⟨g,0,none⟩) n cap∧n≤cap∧cap≤9223372036854775807∧g<w.heap.size:=by
 rcases h.shape with ⟨_,rfl,_⟩ | h
 ·omega
 ·exact h
theorem Own.sees {w:World} {e:TypeId} {size:Nat} {v:Value} {n:Nat} {xs:List Value} (h:Own w e size v n xs):Sees w size v n xs:=by
 refine⟨h.1,?_⟩;rcases h.shape with ⟨rfl,rfl,rfl⟩ | ⟨g,cap,rfl,hc,_⟩
 ·exact⟨none,0,rfl,Nat.le_refl _,fun _=>⟨rfl,rfl⟩,by simp⟩
 ·refine⟨_,cap,rfl,hc,by simp,fun ad had j u hu=>?_⟩;cases had;exact World.ownsRow.cells h (g:=g) rfl j u hu
theorem Own.lt {w:World} {e:TypeId} {size:Nat} {v:Value} {n:Nat} {xs:List Value} (h:Own w e size v n xs):In w v.ownBlock.toList:=fun k hk=>
 (World.ownsRow.lt h k (by simpa[Option.mem_toList] using hk)).2
theorem Own.chg {w w':World} {e:TypeId} {size:Nat} {v:Value} {n:Nat} {xs:List Value} {S:List Nat} (h:Own w e size v n xs) (c:Chg S w w') (hd:Disj v.ownBlock.toList S):Own w' e size v n xs:=by
 refine⟨h.1,?_⟩;rcases h.2 with h2 | ⟨g,cap,cur,hv,hb,hg,r⟩
 ·exact .inl h2
 ·refine .inr ⟨g,cap,cur,hv,hb,?_,r⟩;rw[c.block g (Array.getElem?_eq_some_iff.1 hg).1 (hd g (by rw[hv];simp[Value.ownBlock]))];exact hg
theorem Own.alloc {w:World} {e:TypeId} {size:Nat} {v:Value} {n:Nat} {xs:List Value} (h:Own w e size v n xs) (o:Obj):Own (w.alloc o) e size v n xs:=
 h.chg ((Chg.refl [] w).alloc o) (fun _ _=>by simp)
theorem Own.ne {w:World} {e e':TypeId} {size:Nat} {v:Value} {n:Nat} {xs:List Value} {p:Nat} {cs:Array Value} (h:Own w e size v n xs) (hb:Blk w p cs e') (hne:e≠e'):p∉v.ownBlock.toList:=by
 intro hp;rcases h.2 with ⟨rfl,_⟩ | ⟨g,cap,cur,rfl,_,hg,_⟩
 ·simp[Value.ownBlock] at hp
 ·simp[Value.ownBlock] at hp;subst hp;exact hne (Blk.inj (show Blk w p cur e from hg) hb).2
theorem Own.set {w:World} {e:TypeId} {size:Nat} {g n cap:Nat} {xs:List Value} (h:Own w e size (.slice (some ⟨g,0,none⟩) n cap) n xs) (j:Nat) (u:Value):
  Own (w.setCell ⟨g,j,none⟩ u) e size (.slice (some ⟨g,0,none⟩) n cap) n (xs.set j u):=(World.ownsRow.stored h j u).1
theorem Own.set_ne {w:World} {e:TypeId} {size:Nat} {v:Value} {n:Nat} {xs:List Value} (h:Own w e size v n xs) {a:Addr} (ha:a.block∉v.ownBlock.toList) (u:Value):
  Own (w.setCell a u) e size v n xs:=h.chg (S:=[a.block]) ((Chg.refl _ w).setCell (by simp) u) (fun k hk=>by simp;rintro rfl;exact ha hk)
theorem Own.cellAt {w:World} {e:TypeId} {size:Nat} {g n cap:Nat} {xs:List Value} (h:Own w e size (.slice (some ⟨g,0,none⟩) n cap) n xs) (j:Nat) (hj:j<n * size):w.cell? ⟨g,j,none⟩=xs[j]?:=
 World.ownsRow.cellAt h j hj
theorem Own.frozenAt {w:World} {e:TypeId} {size:Nat} {g n cap:Nat} {xs:List Value} (h:Own w e size (.slice (some ⟨g,0,none⟩) n cap) n xs) (j:Nat):w.frozen? ⟨g,j,none⟩=false:=
 World.ownsRow.frozenAt h j
theorem Sees.len {w:World} {size:Nat} {v:Value} {n:Nat} {xs:List Value} (h:Sees w size v n xs):xs.length=n * size:=h.1
theorem Sees.nil (w:World) (size:Nat):Sees w size (.slice none 0 0) 0 []:=⟨by simp,none,0,rfl,Nat.le_refl _,fun _=>⟨rfl,rfl⟩,by simp⟩
def eyes:Value→List Nat
 | .slice (some a) n _=>if n=0 then [] else [a.block]
 | _=>[]
theorem eyes_own (v:Value):∀k∈eyes v,k∈v.ownBlock.toList:=by
 intro k hk;unfold eyes at hk;split at hk
 ·split at hk;·simp at hk
  ·simpa[Value.ownBlock] using hk
 ·simp at hk
theorem Sees.chg {w w':World} {size:Nat} {v:Value} {n:Nat} {xs:List Value} {S:List Nat} (h:Sees w size v n xs) (c:Chg S w w') (hd:Disj (eyes v) S):Sees w' size v n xs:=by
 obtain⟨h1,ao,cap,rfl,h2,h3,h4⟩:=h;refine⟨h1,ao,cap,rfl,h2,h3,fun ad had j u hu=>?_⟩;have:=h4 ad had j u hu;refine c.cell_some this ?_;have hb:(ad.add j).block=ad.block:=by unfold Addr.add;split <;> rfl
 rw[hb];have hn:n≠0:=by
  rintro rfl;have:=(List.getElem?_eq_some_iff.1 hu).1;omega
 exact hd _ (by subst had;simp[eyes,hn])
theorem Sees.lt {w:World} {size:Nat} {v:Value} {n:Nat} {xs:List Value} (h:Sees w size v n xs) (hs:0<size):In w (eyes v):=by
 obtain⟨h1,ao,cap,rfl,h2,h3,h4⟩:=h;intro k hk;unfold eyes at hk;split at hk
 ·rename_i a n' cap' he;simp only[Value.slice.injEq] at he;obtain⟨rfl,rfl,rfl⟩:=he;split at hk;·simp at hk
  ·rename_i hn;simp at hk;subst hk;have hpos:0<n * size:=Nat.mul_pos (by omega) hs;have:=h4 a rfl 0 (xs[0]'(by omega)) (by simp);have:=World.block_lt_of_cell? w _ this;simpa[Addr.add] using this
 ·simp at hk
theorem Sees.chg0 {w w':World} {size:Nat} {v:Value} {n:Nat} {xs:List Value} (h:Sees w size v n xs) (c:Chg [] w w'):Sees w' size v n xs:=h.chg c (fun _ _=>by simp)
theorem Sees.at1 {w:World} {v:Value} {n:Nat} {xs:List Value} (h:Sees w 1 v n xs) (hn:0<n):
  ∃g off cap,v=.slice (some ⟨g,off,none⟩) n cap∧n≤cap∧∀j,j<n→w.cell? ⟨g,off+j,none⟩=xs[j]?:=by
 obtain⟨h1,ao,cap,rfl,h2,h3,h4⟩:=h;cases ao with
 | none=>have:=(h3 rfl).1;omega
 | some ad=>
  have h0:=h4 ad rfl 0 (xs[0]'(by omega)) (by simp);have hs:ad.spot=none:=by
   have h0':w.cell? ad=some (xs[0]'(by omega)):=by simpa[Addr.add] using h0
   unfold World.cell? at h0';split at h0'
   ·split at h0';·simp at h0'
    ·rename_i hh;simpa using hh
   ·simp at h0'
  obtain⟨g,off,sp⟩:=ad;simp at hs;subst hs;refine⟨g,off,cap,rfl,h2,fun j hj=>?_⟩;have:=h4 _ rfl j (xs[j]'(by omega)) (by simp);rw[Addr.add_lit] at this;rw[this];simp
theorem Sees.cells {w:World} {size:Nat} {v:Value} {n:Nat} {xs:List Value} (h:Sees w size v n xs) (hn:0<n * size):
  ∃g off cap,v=.slice (some ⟨g,off,none⟩) n cap∧n≤cap∧g<w.heap.size∧∀j,j<n * size→w.cell? ⟨g,off+j,none⟩=xs[j]?:=by
 obtain⟨h1,ao,cap,rfl,h2,h3,h4⟩:=h;cases ao with
 | none=>rw[(h3 rfl).1] at hn;simp at hn
 | some ad=>
  have h0:=h4 ad rfl 0 (xs[0]'(by omega)) (by simp);have h0':w.cell? ad=some (xs[0]'(by omega)):=by simpa[Addr.add] using h0
  have hs:ad.spot=none:=by
   unfold World.cell? at h0';split at h0'
   ·split at h0';·simp at h0'
    ·rename_i hh;simpa using hh
   ·simp at h0'
  obtain⟨g,off,sp⟩:=ad;simp at hs;subst hs;refine⟨g,off,cap,rfl,h2,World.block_lt_of_cell? w _ h0',fun j hj=>?_⟩;have:=h4 _ rfl j (xs[j]'(by omega)) (by simp);rw[Addr.add_lit] at this;rw[this];simp
theorem Sees.shape {w:World} {size:Nat} {v:Value} {n:Nat} {xs:List Value} (h:Sees w size v n xs):∃ao cap,v=.slice ao n cap∧n≤cap∧(ao=none→n=0∧cap=0):=by
 obtain⟨_,ao,cap,h1,h2,h3,_⟩:=h;exact⟨ao,cap,h1,h2,h3⟩
def SliceTy (P:Program) (t e:TypeId) (z:Value) (size bytes:Nat):Prop:=
 P.underlying t=some (.slice e)∧(P.info? e).map (fun i=>(i.zero,i.size,i.bytes))=some (some z,size,bytes)∧z.cells.size=size∧0<size
theorem run_app {P:Program} (w:World) (t ty e:TypeId) (i:TypeInfo) (z:Value) (ht:P.underlying t=some (.slice e)) (hi:P.info? e=some i) (hz:i.zero=some z)
  (hzs:z.cells.size=i.size) (v:Value) (n:Nat) (xs:List Value) (hown:Own w e i.size v n xs)
  (a:Addr) (m c:Nat) (news:List Value) (hl:news.length=m * i.size) (hnews:∀j u,news[j]?=some u→w.cell? (a.add j)=some u) (h1:∀u∈news,u.oneCell'=true)
  (h63:n+m≤9223372036854775807) (hbytes:(n+m) * i.bytes≤140737488355328):
  ∃v' w',(Builtin.append_ #[t,t] ty #[v,.slice (some a) m c]).run P w=.ok v' w'∧Own w' e i.size v' (n+m) (xs++news)∧Chg v.ownBlock.toList w w'∧
   (∀k∈v'.ownBlock.toList,k∈v.ownBlock.toList∨w.heap.size≤k):=by
 have h63':n+m≤maxLen:=by simpa[maxLen] using h63
 have hlen:(xs++news).length=(n+m) * i.size:=by rw[List.length_append,hown.1,hl,Nat.add_mul]
 have grown:∀(old:Nat) (S:List Nat),
   Own (w.drew.alloc (.cells (xs.toArray++news.toArray++Builtin.zeroCells z.cells (grownCap w (n+m) old e - (n+m))) e)) e i.size
    (.slice (some ⟨w.heap.size,0,none⟩) (n+m) (grownCap w (n+m) old e)) (n+m) (xs++news)∧
   Chg S w (w.drew.alloc (.cells (xs.toArray++news.toArray++Builtin.zeroCells z.cells (grownCap w (n+m) old e - (n+m))) e)):=by
  intro old S;have hge:=grownCap_ge w (n+m) old e;have hcm:grownCap w (n+m) old e≤maxLen:=grownCap_le_maxLen w (n+m) old e h63';refine⟨⟨hlen,.inr ⟨w.heap.size,_,_,rfl,Nat.zero_le _,heap_alloc_new w.drew _,hge,hcm,?_,?_⟩⟩,((Chg.refl S w).drew).alloc _⟩
  ·simp only[Array.size_append,List.size_toArray,size_zeroCells,hzs,hown.1,hl,←Nat.add_mul];congr 1;omega
  ·simp only[Array.toList_append,List.append_assoc];rw[←List.append_assoc,←hlen];exact List.take_left
 rcases hown.2 with ⟨rfl,rfl⟩ | ⟨g,cap,cur,rfl,hbg,hg,hnc,hcm,hcs,htake⟩
 ·have hx:xs=[]:=List.eq_nil_of_length_eq_zero (by simpa using hown.1);subst hx;by_cases hm:m=0
  ·subst hm;have hn:news=[]:=List.eq_nil_of_length_eq_zero (by simpa using hl);subst hn;refine⟨.slice none 0 0,w,?_,Own.nil w e i.size,Chg.refl _ _,fun k hk=>.inl hk⟩;simp[Builtin.append_,run_underlying ht,sizeOf,typeInfo,hi,Builtin.lenOf,Builtin.firstCells,loadCells,loadCellsFrom]
  ·have hr:=run_append_nil (P:=P) w t ty e i z ht hi hz a m c news hl hnews (by omega) (by omega) (by have hb:=hbytes;simp only[Nat.zero_add] at hb;omega);have hgr:=grown 0 (Value.ownBlock (.slice none 0 0)).toList;simp only[Nat.zero_add,List.nil_append,Array.empty_append] at hgr ⊢;exact⟨_,_,hr,hgr.1,hgr.2,by simp[Value.ownBlock]⟩
 ·by_cases hroom:n+m≤cap
  ·have hfit:n * i.size+news.length≤cur.size:=by rw[hl,hcs,←Nat.add_mul];exact Nat.mul_le_mul_right _ hroom
   have hr:=run_append_room (P:=P) w t ty e i ht hi g n cap cur hg a m c news hl hnews h1 hroom hfit;refine⟨_,_,hr,⟨hlen,.inr ⟨g,cap,_,rfl,hbg,setRow_heap w g cur _ e _ hg,hroom,hcm,?_,?_⟩⟩,⟨rfl,rfl,rfl,by simp,fun k _ hk=>setRow_other w g k _ (fun e=>hk (by simp[Value.ownBlock,e]))⟩,fun k hk=>.inl hk⟩
   ·simp only[List.size_toArray,List.length_append,List.length_take,List.length_drop,Array.length_toList];omega
   ·rw[htake,←hlen];exact List.take_left
  ·have holds:∀j u,xs[j]?=some u→w.cell? ((⟨g,0,none⟩:Addr).add j)=some u:=World.ownsRow.cells hown (g:=g) rfl;have hr:=run_append_grow (P:=P) w t ty e i z ht hi hz ⟨g,0,none⟩ n cap xs hown.1 holds a m c news hl hnews (by omega) (by omega) (growslice_fits (by omega) hbytes);have hgr:=grown cap (Value.ownBlock (.slice (some ⟨g,0,none⟩) n cap)).toList;exact⟨_,_,hr,hgr.1,hgr.2,by simp[Value.ownBlock]⟩
theorem wpList_app {P:Program} {W:World} {ops:Array Oper} {rest:List Oper} {o:Oper} {a:Act} {Q:Exit→Act→World→Prop} (hgd:o.guard=none) (s x:Operand) (t:TypeId)
  (ho:o.op=.call { callee:=.builtin .append,args:=#[s,x],argTypes:=#[t,t] })
  {e:TypeId} {z:Value} {size bytes:Nat} (ht:SliceTy P t e z size bytes)
  {v:Value} {n:Nat} {xs:List Value} (hown:Own W e size v n xs) (hs:a.eval s=v) {vx:Value} {m:Nat} {news:List Value} (hsrc:Sees W size vx m news) (hx:a.eval x=vx)
  (h1:∀u∈news,u.oneCell'=true) (hb:(n+m) * bytes≤140737488355328) (h63:n+m≤9223372036854775807)
  (h:∀v' W',Own W' e size v' (n+m) (xs++news)→Chg v.ownBlock.toList W W'→(∀k∈v'.ownBlock.toList,k∈v.ownBlock.toList∨W.heap.size≤k)→wpList P ops Q rest (a.put o.dst v') W'):wpList P ops Q (o::rest) a W:=by
 obtain⟨ht1,ht2,ht3,ht4⟩:=ht;obtain⟨i,hi,hz0,rfl,rfl⟩:=info_parts ht2;obtain⟨hl,ao,cap,rfl,hc,hno,hcells⟩:=hsrc;cases ao with
 | none=>
  obtain⟨rfl,rfl⟩:=hno rfl;have:news=[]:=List.eq_nil_of_length_eq_zero (by simpa using hl);subst this;refine wpList_append_own_none hgd s x t ho 0 e i i.size ht1 hi v n xs hs hown hx ?_;exact h v W (by simpa using hown) (Chg.refl _ _) (fun _ hk=>.inl hk)
 | some ad=>
  refine wpList_plain hgd fun _ hK=>?_
  obtain⟨v',w',hr,h2,h3,h4⟩:=run_app (P:=P) W t o.type e i z ht1 hi hz0 ht3 v n xs hown ad m cap news hl (hcells ad rfl) h1 h63 hb;unfold Oper.wp execOp;simp only[ho,resolve,invoke,builtin,Sem.run_bind,Sem.run_pure,Result.andThen_ok,List.map_toArray,List.map_cons,List.map_nil,hs,hx,hr];exact hK _ _ (h v' w' h2 h3 h4)
theorem wpList_push {P:Program} {w:World} {ops:Array Oper} {rest:List Oper} {o:Oper} {a:Act} {Q:Exit→Act→World→Prop} (hgd:o.guard=none) (s x:Operand) (t:TypeId)
  (ho:o.op=.call { callee:=.builtin .append,args:=#[s,x],argTypes:=#[t,t] })
  {e:TypeId} {z:Value} {bytes:Nat} (ht:SliceTy P t e z 1 bytes)
  {v:Value} {n:Nat} {xs:List Value} (hown:Own w e 1 v n xs) (hs:a.eval s=v) {e':TypeId} {u:Value} (hx:a.eval x=.slice (some ⟨w.heap.size,0,none⟩) 1 1)
  (h1:u.oneCell'=true) (hb:(n+1) * bytes≤140737488355328) (h63:n+1≤9223372036854775807)
  (h:∀g cap W',Own W' e 1 (.slice (some ⟨g,0,none⟩) (n+1) cap) (n+1) (xs++[u])→Chg v.ownBlock.toList w W'→(g∈v.ownBlock.toList∨w.heap.size≤g)→n+1≤cap→g<W'.heap.size→
   wpList P ops Q rest (a.put o.dst (.slice (some ⟨g,0,none⟩) (n+1) cap)) W'):wpList P ops Q (o::rest) a (w.alloc (.cells #[u] e')):=by
 refine wpList_app hgd s x t ho ht (hown.alloc _) hs (m:=1) (news:=[u]) ⟨rfl,_,_,rfl,Nat.le_refl _,by simp,?_⟩ hx (by simpa using h1) hb h63 ?_
 ·intro ad had j u' hu;cases had
  match j,hu with
  | 0,hu=>simp at hu;subst hu;simp[Addr.add]
 ·intro v' W' h2 h3 h4;obtain⟨g,cap,rfl,h5,_,h6⟩:=h2.pos (by omega);refine h g cap W' h2 (((Chg.refl _ w).alloc _).trans h3 (fun i hi=>.inl hi)) ?_ h5 h6;rcases h4 g (by simp[Value.ownBlock]) with h | h
  ·exact .inl h
  ·right;simp at h;omega
theorem wpList_mk {P:Program} {w:World} {ops:Array Oper} {rest:List Oper} {o:Oper} {a:Act} {Q:Exit→Act→World→Prop} (hg:o.guard=none) (l c:Operand) (t:TypeId) (hop:o.op=Op.makeSlice t l c)
  {e:TypeId} {z:Value} {bytes:Nat} (ht:SliceTy P t e z 1 bytes) (hz:z.cells=#[z]) (kl kc:IntKind) (n:Nat) {L C:Int} (hl:a.eval l=.int kl L) (hc:a.eval c=.int kc C) (hL:L=(n:Int)) (hC:C=(n:Int))
  (hb:bytes * n≤281474976710656) (h63:n≤9223372036854775807)
  (h:∀w',Own w' e 1 (.slice (some ⟨w.heap.size,0,none⟩) n n) n (List.replicate n z)→Chg [] w w'→w.heap.size<w'.heap.size→
   wpList P ops Q rest (a.put o.dst (.slice (some ⟨w.heap.size,0,none⟩) n n)) w'):wpList P ops Q (o::rest) a w:=by
 obtain⟨ht1,ht2,ht3,ht4⟩:=ht;obtain⟨i,hi,hz0,hz1,rfl⟩:=info_parts ht2;refine wpList_make_full w hg l c t hop 0 e i z 1 ht1 hi hz0 hz1 kl kc L C n hl hc hL hC hb (by simpa[maxLen] using h63) (Nat.zero_le _) ?_;intro w' h1 h2;rw[hz,Nat.mul_one,toList_madeCells_one] at h1;refine h w' h1 (Chg.of_grown h2) ?_;rcases h1.2 with ⟨h3,_⟩ | ⟨g,cap,cur,h3,_,hg,_⟩
 ·simp at h3
 ·simp only[Value.slice.injEq,Option.some.injEq,Addr.mk.injEq,and_true] at h3;rw[h3.1];exact (Array.getElem?_eq_some_iff.1 hg).1
theorem Sees.blk {W:World} {k:Nat} {cs:Array Value} {e:TypeId} (h:Blk W k cs e):Sees W cs.size (.slice (some ⟨k,0,none⟩) 1 1) 1 cs.toList:=by
 refine⟨by simp,_,_,rfl,Nat.le_refl _,by simp,fun ad had j u hu=>?_⟩;cases had;rw[Addr.add_lit,Nat.zero_add,h.cell];simpa using hu
theorem wp_app {P:Program} {W:World} {o:Oper} {a:Act} {K:Act→World→Prop} {Q:Exit→Act→World→Prop} (s x:Operand) (t:TypeId)
  (ho:o.op=.call { callee:=.builtin .append,args:=#[s,x],argTypes:=#[t,t] })
  {e:TypeId} {z:Value} {size bytes:Nat} (ht:SliceTy P t e z size bytes)
  {v:Value} {n:Nat} {xs:List Value} (hown:Own W e size v n xs) (hs:a.eval s=v) {vx:Value} {m:Nat} {news:List Value} (hsrc:Sees W size vx m news) (hx:a.eval x=vx)
  (h1:∀u∈news,u.oneCell'=true) (hb:(n+m) * bytes≤140737488355328) (h63:n+m≤9223372036854775807)
  (h:∀v' W',Own W' e size v' (n+m) (xs++news)→Chg v.ownBlock.toList W W'→(∀k∈v'.ownBlock.toList,k∈v.ownBlock.toList∨W.heap.size≤k)→K (a.put o.dst v') W'):o.wp P a W K Q:=by
 obtain⟨ht1,ht2,ht3,ht4⟩:=ht;obtain⟨i,hi,hz0,rfl,rfl⟩:=info_parts ht2;obtain⟨hl,ao,cap,rfl,hc,hno,hcells⟩:=hsrc;cases ao with
 | none=>
  obtain⟨rfl,rfl⟩:=hno rfl;have:news=[]:=List.eq_nil_of_length_eq_zero (by simpa using hl);subst this;have hrun:=run_append_owned_none (P:=P) (w:=W) 0 t o.type e i i.size ht1 hi v n xs hown;unfold Oper.wp;simp[execOp,ho,resolve,invoke,builtin,hs,hx,hrun,Result.andThen];exact h v W (by simpa using hown) (Chg.refl _ _) (fun _ hk=>.inl hk)
 | some ad=>
  obtain⟨v',w',hr,h2,h3,h4⟩:=run_app (P:=P) W t o.type e i z ht1 hi hz0 ht3 v n xs hown ad m cap news hl (hcells ad rfl) h1 h63 hb;unfold Oper.wp execOp;simp only[ho,resolve,invoke,builtin,Sem.run_bind,Sem.run_pure,Result.andThen_ok,List.map_toArray,List.map_cons,List.map_nil,hs,hx,hr];exact h v' w' h2 h3 h4
theorem step_app {P:Program} {W:World} {ops:Array Oper} {o:Oper} {a:Act} {K:Act→World→Prop} {Q:Exit→Act→World→Prop} {E:Prop} (hgd:o.guard=none) (s x:Operand) (t:TypeId)
  (ho:o.op=.call { callee:=.builtin .append,args:=#[s,x],argTypes:=#[t,t] })
  {e:TypeId} {z:Value} {size bytes:Nat} (ht:SliceTy P t e z size bytes)
  {v:Value} {n:Nat} {xs:List Value} (hown:Own W e size v n xs) (hs:a.eval s=v) {vx:Value} {m:Nat} {news:List Value} (hsrc:Sees W size vx m news) (hx:a.eval x=vx)
  (h1:∀u∈news,u.oneCell'=true) (hb:(n+m) * bytes≤140737488355328) (h63:n+m≤9223372036854775807)
  (h:∀v' W',Own W' e size v' (n+m) (xs++news)→Chg v.ownBlock.toList W W'→(∀k∈v'.ownBlock.toList,k∈v.ownBlock.toList∨W.heap.size≤k)→K (a.put o.dst v') W'):
  if Region.wanted o (yielded ops a.tmps)=true then Oper.wp P o a W K Q else E:=by
 have hw:Region.wanted o (yielded ops a.tmps)=true:=by simp[Region.wanted,hgd]
 rw[if_pos hw];exact wp_app s x t ho ht hown hs hsrc hx h1 hb h63 h
theorem wrap_i64_nat (a:Nat) (h:a≤4611686018427387904):IntKind.i64.wrap (a:Int)=(a:Int):=by
 simp[IntKind.wrap,IntKind.bits,IntKind.signed];split <;> omega
end Go.Aq
