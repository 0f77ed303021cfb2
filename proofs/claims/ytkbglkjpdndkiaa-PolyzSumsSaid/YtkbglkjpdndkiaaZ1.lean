/- Joined texts: A1 A2 A3 A4 A5 A6. No condition. -/
import Derived.OwnWalk
import Derived.Maps.AppendAt
import Derived.Below
import Derived.Orders
import Derived.Laws.Slices
import Derived.Laws.MakeOwn
import Derived.Laws.Entries
import Derived.Deep.OwnRows
import Derived.Laws.CopyRow
import Derived.Laws.StructEq
import Derived.Laws.Cells
import Derived.Laws.Tables
import Derived.Great.BuildSlice
import Derived.Laws.BytesArg
namespace Go.Proofs.Ytkbglkjpdndkiaa
namespace Ab
open Go Go.RowKit
set_option linter.unusedSimpArgs false
set_option linter.unusedVariables false
section
inductive AV where
 |int (k:IntKind) (n:Int)
 |bool (b:Bool)
 |str (s:ByteArray)
 |ptr (p:Option (Nat×Nat))
 |gp (g off:Nat)
 |sl (id:Option Nat) (off len:Nat) (cap:Option Nat)
 |fn (f:FuncId) (first caps:List AV)
 |agg (l:List AV)
 |tup (l:List AV)
 |junk
def AV.one:AV→Bool
 | .agg _| .tup _| .junk=>false
 |_=>true
def AV.cells:AV→List AV
 | .agg l=>l
 |v=>[v]
def AV.held:AV→Bool
 | .tup _| .junk=>false
 |_=>true
structure Pl where
 addr:Addr
 esz:Nat
 tot:Option Nat
abbrev Mu:=Nat→Option Pl
def Mu.le (μ μ':Mu):Prop:=∀id p,μ id=some p→μ' id=some p
theorem Mu.le_refl (μ:Mu):μ.le μ:=fun _ _ h=>h
theorem Mu.le_trans {a b c:Mu} (h:a.le b) (k:b.le c):a.le c:=fun id p hp=>k id p (h id p hp)
inductive Rel (μ:Mu):AV→Value→Prop
 |int (k:IntKind) (n:Int):Rel μ (.int k n) (.int k n)
 |bool (b:Bool):Rel μ (.bool b) (.bool b)
 |str (s:ByteArray):Rel μ (.str s) (.string s)
 |pnil:Rel μ (.ptr none) (.pointer none)
 |ptr {id off:Nat} {p:Pl} (hp:μ id=some p):Rel μ (.ptr (some (id,off))) (.pointer (some (p.addr.add off)))
 |gp (g off:Nat):Rel μ (.gp g off) (.pointer (some ⟨g,off,none⟩))
 |snil {A:Option Addr} {c:Option Nat} (hc:∀x,c=some x→x=0):Rel μ (.sl none 0 0 c) (.slice A 0 0)
 |sl {id off len:Nat} {c:Option Nat} {p:Pl} {cap:Nat} {A:Option Addr} (hp:μ id=some p) (hA:cap=0∨A=some (p.addr.add off)) (hl:len≤cap)
   (hc:∀x,c=some x→x=cap) (ht:∀T,p.tot=some T→off+cap*p.esz=T):Rel μ (.sl (some id) off len c) (.slice A len cap)
 |fn {f:FuncId} {first caps:List AV} {vs ws:Array Value} (h1:first.length=vs.size) (h2:∀(i:Nat) (u:AV) (v:Value),first[i]? =some u→vs[i]? =some v→Rel μ u v)
   (h3:caps.length=ws.size) (h4:∀(i:Nat) (u:AV) (v:Value),caps[i]? =some u→ws[i]? =some v→Rel μ u v):Rel μ (.fn f first caps) (.func (.func f) vs ws)
 |agg {l:List AV} {vs:Array Value} (h1:l.length=vs.size) (h2:∀(i:Nat) (u:AV) (v:Value),l[i]? =some u→vs[i]? =some v→Rel μ u v):Rel μ (.agg l) (.agg vs)
 |tup {l:List AV} {vs:Array Value} (h1:l.length=vs.size) (h2:∀(i:Nat) (u:AV) (v:Value),l[i]? =some u→vs[i]? =some v→Rel μ u v):Rel μ (.tup l) (.tuple vs)
 |junk (v:Value):Rel μ .junk v
theorem Rel.mono {μ μ':Mu} (h:μ.le μ') {u:AV} {v:Value} (r:Rel μ u v):Rel μ' u v:=by
 induction r with
 |int k n=>exact .int k n
 |bool b=>exact .bool b
 |str s=>exact .str s
 |pnil=>exact .pnil
 |ptr hp=>exact .ptr (h _ _ hp)
 |gp g off=>exact .gp g off
 |snil hc=>exact .snil hc
 |sl hp hA hl hc ht=>exact .sl (h _ _ hp) hA hl hc ht
 |fn h1 _ h3 _ ih2 ih4=>exact .fn h1 ih2 h3 ih4
 |agg h1 _ ih=>exact .agg h1 ih
 |tup h1 _ ih=>exact .tup h1 ih
 |junk v=>exact .junk v
theorem Rel.oneCell {μ:Mu} {u:AV} {v:Value} (r:Rel μ u v) (h:u.one=true):v.oneCell'=true:=by
 cases r<;>simp_all [AV.one]<;>rfl
def RelA (μ:Mu) (l:List AV) (vs:List Value):Prop:=l.length=vs.length∧∀(i:Nat) (u:AV) (v:Value),l[i]? =some u→vs[i]? =some v→Rel μ u v
theorem RelA.mono {μ μ':Mu} (h:μ.le μ') {l:List AV} {vs:List Value} (r:RelA μ l vs):RelA μ' l vs:=⟨r.1,fun i u v hu hv=>(r.2 i u v hu hv).mono h⟩
theorem RelA.nil (μ:Mu):RelA μ [] []:=⟨rfl,fun _ _ _ h=>by simp at h⟩
theorem RelA.cons {μ:Mu} {u:AV} {v:Value} {l:List AV} {vs:List Value} (r:Rel μ u v) (h:RelA μ l vs):RelA μ (u::l) (v::vs):=
 ⟨by simp[h.1],fun i a b ha hb=>by
  cases i with
  |zero=>simp at ha hb;subst ha;subst hb;exact r
  |succ i=>exact h.2 i a b (by simpa using ha) (by simpa using hb)⟩
theorem RelA.inv {μ:Mu} {u:AV} {l:List AV} {vs:List Value} (h:RelA μ (u::l) vs):∃v vs',vs=v::vs'∧Rel μ u v∧RelA μ l vs':=by
 cases vs with
 |nil=>simp[RelA] at h
 |cons v vs'=>exact⟨v,vs',rfl,h.2 0 u v rfl rfl,by simpa using h.1,fun i a b ha hb=>h.2 (i+1) a b (by simpa using ha) (by simpa using hb)⟩
theorem RelA.inv_nil {μ:Mu} {vs:List Value} (h:RelA μ [] vs):vs=[]:=List.eq_nil_of_length_eq_zero h.1.symm
theorem RelA.append {μ:Mu} {l l':List AV} {vs vs':List Value} (h:RelA μ l vs) (h':RelA μ l' vs'):RelA μ (l++l') (vs++vs'):=by
 refine⟨by simp[h.1,h'.1],fun i u v hu hv=> ?_⟩
 rcases Nat.lt_or_ge i l.length with hi|hi
 ·rw[List.getElem?_append_left hi] at hu
  rw[List.getElem?_append_left (by rw[←h.1];exact hi)] at hv
  exact h.2 i u v hu hv
 ·rw[List.getElem?_append_right hi] at hu
  rw[List.getElem?_append_right (by rw[←h.1];exact hi),←h.1] at hv
  exact h'.2 _ u v hu hv
theorem RelA.take {μ:Mu} {l:List AV} {vs:List Value} (h:RelA μ l vs) (n:Nat):RelA μ (l.take n) (vs.take n):=
 ⟨by simp[h.1],fun i u v hu hv=>by
  rw[List.getElem?_take] at hu hv
  split at hu
  ·rename_i hi
   rw[if_pos hi] at hv
   exact h.2 i u v hu hv
  ·cases hu⟩
theorem RelA.drop {μ:Mu} {l:List AV} {vs:List Value} (h:RelA μ l vs) (n:Nat):RelA μ (l.drop n) (vs.drop n):=
 ⟨by simp[h.1],fun i u v hu hv=>by
  rw[List.getElem?_drop] at hu hv
  exact h.2 _ u v hu hv⟩
theorem RelA.oneCell {μ:Mu} {l:List AV} {vs:List Value} (h:RelA μ l vs) (h1:∀u∈l,u.one=true):∀v∈vs,v.oneCell'=true:=by
 intro v hv
 obtain⟨i,hi,rfl⟩:=List.getElem_of_mem hv
 have hl:i<l.length:=by rw[h.1];exact hi
 exact(h.2 i l[i] vs[i] (List.getElem?_eq_getElem hl) (List.getElem?_eq_getElem hi)).oneCell (h1 _ (List.getElem_mem hl))
theorem Rel.cells {μ:Mu} {u:AV} {v:Value} (r:Rel μ u v) (h:u.held=true):RelA μ u.cells v.cells.toList:=by
 cases r with
 |agg h1 h2=>exact⟨by simpa [AV.cells,Value.cells] using h1,fun i a b ha hb=>h2 i a b ha (by simpa [Value.cells] using hb)⟩
 |tup h1 h2=>simp[AV.held] at h
 |junk v=>simp[AV.held] at h
 |int k n=>exact(RelA.nil μ).cons (.int k n)
 |bool b=>exact(RelA.nil μ).cons (.bool b)
 |str b=>exact(RelA.nil μ).cons (.str b)
 |pnil=>exact(RelA.nil μ).cons .pnil
 |ptr hp=>exact(RelA.nil μ).cons (.ptr hp)
 |gp g off=>exact(RelA.nil μ).cons (.gp g off)
 |snil hc=>exact(RelA.nil μ).cons (.snil hc)
 |sl hp hA hl hc ht=>exact(RelA.nil μ).cons (.sl hp hA hl hc ht)
 |fn h1 h2 h3 h4=>exact(RelA.nil μ).cons (.fn h1 h2 h3 h4)
theorem RelA.agg {μ:Mu} {l:List AV} {vs:List Value} (h:RelA μ l vs):Rel μ (.agg l) (.agg vs.toArray):= .agg (by simpa using h.1) (fun i u v hu hv=>h.2 i u v hu (by simpa using hv))
theorem RelA.tup {μ:Mu} {l:List AV} {vs:List Value} (h:RelA μ l vs):Rel μ (.tup l) (.tuple vs.toArray):= .tup (by simpa using h.1) (fun i u v hu hv=>h.2 i u v hu (by simpa using hv))
structure Row where
 own:Option TypeId
 esz:Nat
 cells:List AV
structure H where
 rows:Nat→Option Row
 next:Nat
def H.new (h:H) (r:Row):H:={rows:=fun i=>if i=h.next then some r else h.rows i,next:=h.next+1}
def H.set (h:H) (id:Nat) (r:Row):H:={h with rows:=fun i=>if i=id then some r else h.rows i}
def H.del (h:H) (id:Option Nat):H:={h with rows:=fun i=>if some i=id then none else h.rows i}
def RowRep (base:Nat) (μ:Mu) (w:World) (p:Pl) (r:Row):Prop:=
 match r.own with
 |none=>p.addr.block<base∧p.tot=none∧∀(j:Nat) (u:AV),r.cells[j]? =some u→∃v,w.cell? (p.addr.add j)=some v∧Rel μ u v
 |some t=>∃(g:Nat) (cur:Array Value),p.addr=⟨g,0,none⟩∧base≤g∧p.esz=r.esz∧w.heap[g]? =some (.cells cur t (0,0))∧p.tot=some cur.size∧cur.size≤maxLen*r.esz∧
   r.cells.length≤cur.size∧∀(j:Nat) (u:AV),r.cells[j]? =some u→∃v,cur[j]? =some v∧Rel μ u v
def gnum:Option Nat:=none
def gtab:List Nat:=[0,1,56,2,57,49,28,3,61,58,42,50,38,29,17,4,62,47,59,36,45,43,51,22,53,39,33,30,24,18,12,5,63,55,48,27,60,41,37,16,46,35,44,21,52,32,23,11,54,26,40,15,34,20,31,10,25,14,19,9,13,8,7,6]
def gcell (g off:Nat):Option Nat:=if gnum=some g then gtab[off]? else none
def GlobOK (base:Nat) (w0:World):Prop:=∀g off n,gcell g off=some n→g<base∧w0.cell? ⟨g,off,none⟩=some (.int .u8 n)
structure Rep (base:Nat) (w0:World) (μ:Mu) (w:World) (h:H):Prop where
 below:Below base w0 w
 size:base≤w.heap.size
 glob:GlobOK base w0
 free:∀id,h.next≤id→μ id=none
 row:∀id r,h.rows id=some r→∃p,μ id=some p∧RowRep base μ w p r
 apart:∀id id' r r' p p',h.rows id=some r→h.rows id'=some r'→r.own≠none→r'.own≠none→μ id=some p→μ id'=some p'→p.addr.block=p'.addr.block→id=id'
theorem Rep.row_free {base:Nat} {w0 w:World} {μ:Mu} {h:H} (R:Rep base w0 μ w h) {id:Nat} (hid:h.next≤id):h.rows id=none:=by
 cases hr:h.rows id with
 |none=>rfl
 |some r=>
  obtain⟨p,hp,_⟩:=R.row id r hr
  rw[R.free id hid] at hp
  cases hp
theorem block_add (a:Addr) (n:Nat):(a.add n).block=a.block:=by unfold Addr.add;split<;>rfl
theorem add_add (a:Addr) (i j:Nat):(a.add i).add j=a.add (i+j):=by
 unfold Addr.add
 by_cases hi:i=0<;>by_cases hj:j=0<;>simp[hi,hj,Nat.add_assoc]
theorem add_plain (g o i:Nat):(⟨g,o,none⟩:Addr).add i=⟨g,o+i,none⟩:=by
 unfold Addr.add
 by_cases hi:i=0<;>simp[hi]
theorem RowRep.mono {base:Nat} {μ μ':Mu} (h:μ.le μ') {w:World} {p:Pl} {r:Row} (hr:RowRep base μ w p r):RowRep base μ' w p r:=by
 unfold RowRep at*
 split at hr
 ·exact⟨hr.1,hr.2.1,fun j u hu=>by
   obtain⟨v,hv,hR⟩:=hr.2.2 j u hu
   exact⟨v,hv,hR.mono h⟩⟩
 ·obtain⟨g,cur,h1,h2,h3,h4,h5,h6,h7,h8⟩:=hr
  exact⟨g,cur,h1,h2,h3,h4,h5,h6,h7,fun j u hu=>by
   obtain⟨v,hv,hR⟩:=h8 j u hu
   exact⟨v,hv,hR.mono h⟩⟩
theorem RowRep.keep {base:Nat} {μ:Mu} {w w':World} {p:Pl} {r:Row} (hr:RowRep base μ w p r) (hk:w'.heap[p.addr.block]? =w.heap[p.addr.block]?):RowRep base μ w' p r:=by
 unfold RowRep at*
 split at hr
 ·exact⟨hr.1,hr.2.1,fun j u hu=>by
   obtain⟨v,hv,hR⟩:=hr.2.2 j u hu
   refine⟨v, ?_,hR⟩
   rw[World.cell?_of_block (w:=w) (by rw[block_add];exact hk)]
   exact hv⟩
 ·obtain⟨g,cur,h1,h2,h3,h4,h5,h6,h7,h8⟩:=hr
  rw[h1] at hk
  exact⟨g,cur,h1,h2,h3,hk.trans h4,h5,h6,h7,h8⟩
theorem RowRep.block_lt {base:Nat} {μ:Mu} {w:World} {p:Pl} {r:Row} (hr:RowRep base μ w p r) (hb:base≤w.heap.size):p.addr.block<w.heap.size:=by
 unfold RowRep at hr
 split at hr
 ·omega
 ·obtain⟨g,cur,h1,h2,h3,h4,_⟩:=hr
  rw[h1]
  rcases Nat.lt_or_ge g w.heap.size with hlt|hge
  ·exact hlt
  ·rw[Array.getElem?_eq_none hge] at h4;cases h4
theorem RowRep.own_ge {base:Nat} {μ:Mu} {w:World} {p:Pl} {r:Row} (hr:RowRep base μ w p r) (ho:r.own≠none):base≤p.addr.block:=by
 unfold RowRep at hr
 split at hr
 ·rename_i h;exact absurd h ho
 ·obtain⟨g,cur,h1,h2,_⟩:=hr
  rw[h1];exact h2
theorem RowRep.ro_lt {base:Nat} {μ:Mu} {w:World} {p:Pl} {r:Row} (hr:RowRep base μ w p r) (ho:r.own=none):p.addr.block<base:=by
 unfold RowRep at hr
 rw[ho] at hr
 exact hr.1
theorem RowRep.cell {base:Nat} {μ:Mu} {w:World} {p:Pl} {r:Row} (hr:RowRep base μ w p r) {j:Nat} {u:AV} (hu:r.cells[j]? =some u):∃v,w.cell? (p.addr.add j)=some v∧Rel μ u v:=by
 unfold RowRep at hr
 split at hr
 ·exact hr.2.2 j u hu
 ·obtain⟨g,cur,h1,h2,h3,h4,h5,h6,h7,h8⟩:=hr
  obtain⟨v,hv,hR⟩:=h8 j u hu
  refine⟨v, ?_,hR⟩
  rw[h1,add_plain]
  simp[World.cell?,h4,hv]
section
variable {base:Nat} {w0 w:World} {μ:Mu} {h:H}
theorem Rep.gcell (R:Rep base w0 μ w h) {g off n:Nat} (hg:gcell g off=some n):w.cell? ⟨g,off,none⟩=some (.int .u8 n):=by
 obtain⟨h1,h2⟩:=R.glob g off n hg
 rw[World.cell?_of_block (w:=w0) (R.below.block g h1)]
 exact h2
theorem Rep.drew (R:Rep base w0 μ w h) (n:Nat):Rep base w0 μ {w with drawn:=n} h:=
 ⟨⟨R.below.os,R.below.tape,R.below.output,R.below.size,R.below.block⟩,R.size,R.glob,R.free,fun id r hr=>by
  obtain⟨p,hp,hR⟩:=R.row id r hr
  exact⟨p,hp,hR.keep rfl⟩,R.apart⟩
theorem Rep.del (R:Rep base w0 μ w h) (id:Option Nat):Rep base w0 μ w (h.del id):=
 ⟨R.below,R.size,R.glob,R.free,fun i r hr=>by
  simp only[H.del] at hr
  split at hr
  ·cases hr
  ·exact R.row i r hr,fun i i' r r' p p' hr hr'=>by
  simp only[H.del] at hr hr'
  split at hr
  ·cases hr
  ·split at hr'
   ·cases hr'
   ·exact R.apart i i' r r' p p' hr hr'⟩
def Mu.put (μ:Mu) (id:Nat) (p:Pl):Mu:=fun i=>if i=id then some p else μ i
theorem Mu.le_put {μ:Mu} {id:Nat} (hid:μ id=none) (p:Pl):μ.le (μ.put id p):=fun i q hq=>by
 unfold Mu.put
 split
 ·rename_i h;subst h;rw[hid] at hq;cases hq
 ·exact hq
theorem Rep.step_new (R:Rep base w0 μ w h) {w':World} {r:Row} {p:Pl} (hb:Below base w0 w') (hs:base≤w'.heap.size)
  (hkeep:∀id r' p',h.rows id=some r'→μ id=some p'→w'.heap[p'.addr.block]? =w.heap[p'.addr.block]?)
  (hne:∀id r' p',h.rows id=some r'→r'.own≠none→μ id=some p'→p'.addr.block≠p.addr.block)
  (hr:RowRep base (μ.put h.next p) w' p r):Rep base w0 (μ.put h.next p) w' (h.new r):=by
 have hfree:=R.free h.next (Nat.le_refl _)
 refine⟨hb,hs,R.glob,fun id hid=> ?_,fun id r' hr'=> ?_,fun i i' r1 r2 p1 p2 h1 h2 o1 o2 q1 q2 hbk=> ?_⟩
 ·simp only[H.new] at hid
  unfold Mu.put
  rw[if_neg (by omega)]
  exact R.free id (by omega)
 ·simp only[H.new] at hr'
  split at hr'
  ·rename_i he
   subst he
   injection hr' with hr'
   subst hr'
   exact⟨p,by simp[Mu.put],hr⟩
  ·obtain⟨q,hq,hR⟩:=R.row id r' hr'
   exact⟨q,Mu.le_put hfree p _ _ hq,(hR.mono (Mu.le_put hfree p)).keep (hkeep id r' q hr' hq)⟩
 ·simp only[H.new] at h1 h2
  unfold Mu.put at q1 q2
  split at h1<;>split at h2
  ·rename_i e1 e2;rw[e1,e2]
  ·rename_i e1 e2
   rw[if_pos e1] at q1
   rw[if_neg e2] at q2
   injection q1 with q1
   subst q1
   exact absurd hbk.symm (hne i' r2 p2 h2 o2 q2)
  ·rename_i e1 e2
   rw[if_neg e1] at q1
   rw[if_pos e2] at q2
   injection q2 with q2
   subst q2
   exact absurd hbk (hne i r1 p1 h1 o1 q1)
  ·rename_i e1 e2
   rw[if_neg e1] at q1
   rw[if_neg e2] at q2
   exact R.apart i i' r1 r2 p1 p2 h1 h2 o1 o2 q1 q2 hbk
theorem Rep.alloc (R:Rep base w0 μ w h) (t:TypeId) (esz:Nat) {l:List AV} {cs:Array Value} (hr:RelA μ l cs.toList) (hm:cs.size≤maxLen*esz):
  Rep base w0 (μ.put h.next ⟨⟨w.heap.size,0,none⟩,esz,some cs.size⟩) (w.alloc (.cells cs t)) (h.new ⟨some t,esz,l⟩):=by
 have hfree:=R.free h.next (Nat.le_refl _)
 refine R.step_new (R.below.alloc R.size _) (by simp;have:=R.size;omega) (fun id r' p' hr' hp'=> ?_) (fun id r' p' hr' ho hp'=> ?_) ?_
 ·obtain⟨q,hq,hR⟩:=R.row id r' hr'
  rw[hp'] at hq
  injection hq with hq
  subst hq
  exact Below.heap_alloc w _ _ (hR.block_lt R.size)
 ·obtain⟨q,hq,hR⟩:=R.row id r' hr'
  rw[hp'] at hq
  injection hq with hq
  subst hq
  have:=hR.block_lt R.size
  show p'.addr.block≠w.heap.size
  omega
 ·refine⟨w.heap.size,cs,rfl,R.size,rfl,heap_alloc_new w _,rfl,hm,by rw[hr.1];simp,fun j u hu=> ?_⟩
  have hj:j<cs.size:=by
   have h1:j<l.length:=(List.getElem?_eq_some_iff.1 hu).1
   have h2:=hr.1
   simp at h2
   omega
  exact⟨cs[j],Array.getElem?_eq_getElem hj,(hr.2 j u cs[j] hu (by simp[hj])).mono (Mu.le_put hfree _)⟩
theorem Rep.write (R:Rep base w0 μ w h) {id:Nat} {r:Row} {p:Pl} {t:TypeId} (hr:h.rows id=some r) (ho:r.own=some t) (hp:μ id=some p) {w':World} {cur cur':Array Value}
  (hcur:w.heap[p.addr.block]? =some (.cells cur t (0,0))) (hw:w'.heap[p.addr.block]? =some (.cells cur' t (0,0))) (hsz:cur'.size=cur.size)
  (hoth:∀b,b≠p.addr.block→w'.heap[b]? =w.heap[b]?) (hs:w'.heap.size=w.heap.size) (hos:w'.os=w.os) (htp:w'.tape=w.tape) (hout:w'.output=w.output)
  {l:List AV} (hl:l.length≤cur'.size) (hrel:∀(j:Nat) (u:AV),l[j]? =some u→∃v,cur'[j]? =some v∧Rel μ u v):Rep base w0 μ w' (h.set id {r with cells:=l}):=by
 obtain⟨q,hq,hR⟩:=R.row id r hr
 rw[hp] at hq
 injection hq with hq
 subst hq
 have hge:=hR.own_ge (by rw[ho];simp)
 refine⟨⟨hos.trans R.below.os,htp.trans R.below.tape,hout.trans R.below.output,by rw[hs];exact R.below.size,fun k hk=>(hoth k (by omega)).trans (R.below.block k hk)⟩,by rw[hs];exact R.size,R.glob,R.free,fun i r' hr'=> ?_,fun i i' r1 r2 p1 p2 h1 h2 o1 o2=> ?_⟩
 ·simp only[H.set] at hr'
  split at hr'
  ·rename_i he
   subst he
   injection hr' with hr'
   subst hr'
   refine⟨p,hp, ?_⟩
   unfold RowRep at hR⊢
   simp only[ho] at hR⊢
   obtain⟨g,c,h1,h2,h3,h4,h5,h6,h7,h8⟩:=hR
   rw[h1] at hcur hw
   rw[h4] at hcur
   injection hcur with hcur
   injection hcur with hcur
   subst hcur
   exact⟨g,cur',h1,h2,h3,hw,by rw[h5,hsz],by rw[hsz];exact h6,hl,hrel⟩
  ·rename_i he
   obtain⟨q,hq,hR'⟩:=R.row i r' hr'
   refine⟨q,hq,hR'.keep (hoth _ (fun e=> ?_))⟩
   cases ho':r'.own with
   |none=>have:=hR'.ro_lt ho';omega
   |some t'=>exact he (R.apart i id r' r q p hr' hr (by rw[ho'];simp) (by rw[ho];simp) hq hp e)
 ·simp only[H.set] at h1 h2
  have key:∀{i:Nat} {r1:Row},(if i=id then some {r with cells:=l} else h.rows i)=some r1→r1.own≠none→∃r0,h.rows i=some r0∧r0.own≠none:=by
   intro i r1 h1 o1
   split at h1
   ·rename_i e
    subst e
    exact⟨r,hr,by rw[ho];simp⟩
   ·exact⟨r1,h1,o1⟩
  obtain⟨a1,b1,c1⟩:=key h1 o1
  obtain⟨a2,b2,c2⟩:=key h2 o2
  exact R.apart i i' a1 a2 p1 p2 b1 b2 c1 c2
end
end
inductive AO where
 |t (n:Nat)
 |c (v:AV)
 |f (g:FuncId)
abbrev Env:=Nat→AV
def aev (ρ:Env):AO→AV
 | .t n=>ρ n
 | .c v=>v
 | .f g=> .fn g [] []
def upd (ρ:Env) (d:Nat) (v:AV):Env:=fun i=>if i=d then v else ρ i
def aput (ρ:Env) (d:Option Nat) (v:AV):Env:=match d with
 |some d=>upd ρ d v
 |none=>ρ
def ofC:Value→AV
 | .int k n=> .int k n
 | .bool b=> .bool b
 | .string s=> .str s
 | .pointer none=> .ptr none
 | .slice none 0 0=> .sl none 0 0 none
 |_=> .junk
def ofV:Value→AV
 | .agg cs=> .agg (cs.toList.map ofC)
 |v=>ofC v
theorem ofC_rel (μ:Mu) (v:Value):Rel μ (ofC v) v:=by
 unfold ofC
 split
 ·exact .int _ _
 ·exact .bool _
 ·exact .str _
 ·exact .pnil
 ·exact .snil (fun x h=>by cases h)
 ·exact .junk _
theorem ofCs_rel (μ:Mu) (l:List Value):RelA μ (l.map ofC) l:=⟨by simp,fun i u v hu hv=>by
 rw[List.getElem?_map,hv] at hu
 simp at hu
 subst hu
 exact ofC_rel μ v⟩
theorem ofV_rel (μ:Mu) (v:Value):Rel μ (ofV v) v:=by
 unfold ofV
 split
 ·exact(ofCs_rel μ _).agg
 ·exact ofC_rel μ _
inductive AOp where
 |mv (x:AO)
 |pick (c a b:AO)
 |bin (op:BinOp) (x y:AO)
 |beq (neq:Bool) (x y:AO)
 |seq (neq:Bool) (x y:AO)
 |cat (x y:AO)
 |aeq (neq:Bool) (n:Nat) (x y:AO)
 |peq (neq:Bool) (x y:AO)
 |idxS (x i:AO)
 |idxV (sz:Option Nat) (m esz:Nat) (x i:AO)
 |un (op:UnOp) (x:AO)
 |cvI (k:IntKind) (x:AO)
 |bts (x:AO)
 |idx (esz:Nat) (x i:AO)
 |idxA (n esz:Nat) (x i:AO)
 |fld (off:Nat) (x:AO)
 |ld (sz:Option Nat) (p:AO)
 |st (sz:Nat) (p v:AO)
 |nn (x:AO)
 |prt (sz:Option Nat) (off:Nat) (x:AO)
 |slc (esz:Nat) (x:AO) (lo hi:Option AO)
 |mk (e:TypeId) (esz bytes:Nat) (zero:List AV) (len cap:AO)
 |bsl (e:TypeId) (esz n:Nat) (zero:List AV) (parts:List (Nat×AO))
 |bld (zero:List AV) (parts:List (Nat×Nat×AO))
 |box (e:TypeId) (x:AO)
 |alloc (e:TypeId) (zero:List AV)
 |len (str:Bool) (x:AO)
 |capo (x:AO)
 |mnx (mx:Bool) (x:AO) (ys:List AO)
 |app (e:TypeId) (esz bytes:Nat) (s x:AO)
 |cpy (esz:Nat) (d s:AO)
 |mkf (f:FuncId) (first caps:List AO)
 |ext (x:AO) (i:Nat)
 |call (f:FuncId) (args:List AO)
 |callV (x:AO) (args:List AO)
 |bad
def Inv (P:Program) (f:FuncId) (vs:Array Value) (w:World) (R:Value→World→Prop):Prop:=
 ((callFunc f vs).run P w= .ok (.enter f vs) w∧Calls P f vs w (fun e w'=>∃v,e= .returned v∧R v w'))∨(∃v,(callFunc f vs).run P w= .ok (.value v) w∧R v w)
def ACalls (P:Program) (f:FuncId) (avs:List AV) (h:H) (K:AV→H→Prop):Prop:=
 ∀(base:Nat) (w0:World) (μ:Mu) (w:World) (vs:List Value),Rep base w0 μ w h→RelA μ avs vs→
  Inv P f vs.toArray w (fun v w'=>∃μ' r h',μ.le μ'∧Rel μ' r v∧Rep base w0 μ' w' h'∧K r h')
def allU8 (l:List AV):Bool:=l.all fun
 | .int .u8 n=>decide (0≤n∧n<256)
 |_=>false
def byteOf:AV→UInt8
 | .int _ n=>UInt8.ofNat n.toNat
 |_=>0
def bytesOf (l:List AV):ByteArray:=⟨(l.map byteOf).toArray⟩
def abin (op:BinOp) (k:IntKind) (a b:Int) (K:AV→Prop):Prop:=
 match op with
 | .add=>K (.int k (k.wrap (a+b)))
 | .sub=>K (.int k (k.wrap (a-b)))
 | .mul=>K (.int k (k.wrap (a*b)))
 | .quo=>b≠0∧K (.int k (k.wrap (a.tdiv b)))
 | .rem=>b≠0∧K (.int k (a.tmod b))
 | .and=>K (.int k (k.wrap (BitVec.ofInt k.bits a&&&BitVec.ofInt k.bits b).toNat))
 | .or=>K (.int k (k.wrap (BitVec.ofInt k.bits a|||BitVec.ofInt k.bits b).toNat))
 | .xor=>K (.int k (k.wrap (BitVec.ofInt k.bits a^^^BitVec.ofInt k.bits b).toNat))
 | .eql=>K (.bool (a==b))
 | .neq=>K (.bool (a !=b))
 | .lss=>K (.bool (decide (a<b)))
 | .leq=>K (.bool (decide (a≤b)))
 | .gtr=>K (.bool (decide (a>b)))
 | .geq=>K (.bool (decide (a≥b)))
 |_=>False
def ashift (op:BinOp) (k:IntKind) (a b:Int) (K:AV→Prop):Prop:=
 match op with
 | .shl=>0≤b∧K (.int k (k.wrap (a*2^(min b.toNat k.bits))))
 | .shr=>0≤b∧K (.int k (a.fdiv (2^(min b.toNat k.bits))))
 |_=>False
def abinV (op:BinOp) (x y:AV) (K:AV→Prop):Prop:=
 match x,y with
 | .int k a, .int k' b=>
  match op with
  | .shl=>ashift .shl k a b K
  | .shr=>ashift .shr k a b K
  |op=>k=k'∧abin op k a b K
 |_,_=>False
def putAt (l:List AV) (off:Nat) (m:List AV):List AV:=l.take off++m++l.drop (off+m.length)
def abuild:List AV→List (Nat×Nat×AV)→Option (List AV)
 |cs,[]=>some cs
 |cs,(off,sz,v)::rest=>if v.held=true∧v.cells.length=sz∧off+sz≤cs.length then abuild (putAt cs off v.cells) rest else none
def boundOf (ρ:Env) (d:Nat) (lo:Option AO) (K:Nat→Prop):Prop:=
 match lo with
 |none=>K d
 |some x=>match aev ρ x with
  | .int _ n=>0≤n∧K n.toNat
  |_=>False
def zs (zero:List AV) (n:Nat):List AV:=
 match zero with
 |[z]=>List.replicate n z
 |_=>(List.replicate n zero).flatten
def eqs:List AV→List AV→Option Bool
 |[],[]=>some true
 | .int k a::l, .int k' b::m=>if k=k' then if a==b then eqs l m else some false else none
 |_,_=>none
def mnxs (mx:Bool) (k:IntKind):Int→List AV→(AV→Prop)→Prop
 |a,[],K=>K (.int k a)
 |a, .int k' b::rest,K=>k=k'∧mnxs mx k (if mx then max a b else min a b) rest K
 |_,_,_=>False
def aexec (P:Program) (o:AOp) (ρ:Env) (h:H) (K:AV→H→Prop):Prop:=
 match o with
 | .mv x=>K (aev ρ x) h
 | .pick c a b=>match aev ρ c with
  | .bool t=>K (if t=true then aev ρ a else aev ρ b) h
  |_=>False
 | .bin op x y=>abinV op (aev ρ x) (aev ρ y) (fun v=>K v h)
 | .beq neq x y=>match aev ρ x,aev ρ y with
  | .bool a, .bool b=>K (.bool (if neq then a !=b else a==b)) h
  |_,_=>False
 | .seq neq x y=>match aev ρ x,aev ρ y with
  | .str a, .str b=>K (.bool (neq !=(a==b))) h
  |_,_=>False
 | .cat x y=>match aev ρ x,aev ρ y with
  | .str a, .str b=>a.size+b.size<9223372036854775808∧K (.str (a++b)) h
  |_,_=>False
 | .aeq neq n x y=>match aev ρ x,aev ρ y with
  | .agg l, .agg m=>l.length=n∧m.length=n∧∃b,eqs l m=some b∧K (.bool (neq !=b)) h
  |_,_=>False
 | .peq neq x y=>match aev ρ x,aev ρ y with
  | .ptr none, .ptr b=>K (.bool (neq !=b.isNone)) h
  | .ptr (some _), .ptr none=>K (.bool neq) h
  |_,_=>False
 | .idxS x i=>match aev ρ x,aev ρ i with
  | .str s, .int _ n=>0≤n∧∃b,s[n.toNat]? =some b∧K (.int .u8 b.toNat) h
  |_,_=>False
 | .idxV sz m esz x i=>match aev ρ x,aev ρ i with
  | .agg l, .int _ n=>0≤n∧n<m∧(match sz with
   |none=>∃v,l[n.toNat*esz]? =some v∧K v h
   |some s=>n.toNat*esz+s≤l.length∧K (.agg ((l.drop (n.toNat*esz)).take s)) h)
  |_,_=>False
 | .un op x=>match op,aev ρ x with
  | .neg, .int k n=>K (.int k (k.wrap (0-n))) h
  | .xor, .int k n=>K (.int k (k.wrap (BitVec.ofInt k.bits (if k.signed then-1 else k.max)^^^BitVec.ofInt k.bits n).toNat)) h
  | .not, .bool b=>K (.bool (!b)) h
  |_,_=>False
 | .cvI k x=>match aev ρ x with
  | .int _ n=>K (.int k (k.wrap n)) h
  |_=>False
 | .bts x=>match aev ρ x with
  | .sl (some id) off n _=>∃r,h.rows id=some r∧0<n∧off+n≤r.cells.length∧allU8 ((r.cells.drop off).take n)=true∧K (.str (bytesOf ((r.cells.drop off).take n))) h
  |_=>False
 | .idx esz x i=>match aev ρ x,aev ρ i with
  | .sl (some id) off len _, .int _ n=>0≤n∧n<len∧K (.ptr (some (id,off+n.toNat*esz))) h
  |_,_=>False
 | .idxA m esz x i=>match aev ρ x,aev ρ i with
  | .ptr (some (id,off)), .int _ n=>0≤n∧n<m∧K (.ptr (some (id,off+n.toNat*esz))) h
  | .gp g off, .int _ n=>0≤n∧n<m∧K (.gp g (off+n.toNat*esz)) h
  |_,_=>False
 | .fld off x=>match aev ρ x with
  | .ptr (some (id,o))=>K (.ptr (some (id,o+off))) h
  |_=>False
 | .ld sz p=>match aev ρ p with
  | .ptr (some (id,off))=>match sz with
   |none=>∃r v,h.rows id=some r∧r.cells[off]? =some v∧K v h
   |some n=>∃r,h.rows id=some r∧off+n≤r.cells.length∧K (.agg ((r.cells.drop off).take n)) h
  | .gp g off=>match sz with
   |none=>∃n,gcell g off=some n∧K (.int .u8 n) h
   |some _=>False
  |_=>False
 | .st n p v=>match aev ρ p with
  | .ptr (some (id,off))=>∃r,h.rows id=some r∧r.own≠none∧(aev ρ v).held=true∧(aev ρ v).cells.length=n∧off+n≤r.cells.length∧((aev ρ v).cells.all (·.one))=true∧
    K .junk (h.set id {r with cells:=putAt r.cells off (aev ρ v).cells})
  |_=>False
 | .nn x=>match aev ρ x with
  | .ptr (some p)=>K (.ptr (some p)) h
  |_=>False
 | .prt sz off x=>match aev ρ x with
  | .agg l=>match sz with
   |none=>∃v,l[off]? =some v∧K v h
   |some n=>off+n≤l.length∧K (.agg ((l.drop off).take n)) h
  |_=>False
 | .slc esz x lo hi=>match aev ρ x with
  | .sl id off len cap=>boundOf ρ len hi fun b=>boundOf ρ 0 lo fun a=>a≤b∧(b≤len∨∃c,cap=some c∧b≤c)∧(∀i,id=some i→∃r,h.rows i=some r∧(r.own=none∨r.esz=esz))∧K (.sl id (off+a*esz) (b-a) (cap.map (· -a))) h
  |_=>False
 | .mk e esz bytes zero len cap=>match aev ρ len,aev ρ cap with
  | .int _ l, .int _ c=>0≤l∧l≤c∧bytes*c≤140737488355328∧K (.sl (some h.next) 0 l.toNat (some c.toNat)) (h.new ⟨some e,esz,zs zero c.toNat⟩)
  |_,_=>False
 | .bsl e esz n zero parts=>∃l,abuild (zs zero n) (parts.map fun p=>(p.1*esz,esz,aev ρ p.2))=some l∧K (.sl (some h.next) 0 n (some n)) (h.new ⟨some e,esz,l⟩)
 | .bld zero parts=>∃l,abuild zero (parts.map fun p=>(p.1,p.2.1,aev ρ p.2.2))=some l∧K (.agg l) h
 | .box e x=>(aev ρ x).held=true∧K (.ptr (some (h.next,0))) (h.new ⟨some e,(aev ρ x).cells.length,(aev ρ x).cells⟩)
 | .alloc e zero=>K (.ptr (some (h.next,0))) (h.new ⟨some e,zero.length,zero⟩)
 | .len str x=>match str,aev ρ x with
  |false, .sl _ _ n _=>K (.int .i64 n) h
  |true, .str s=>K (.int .i64 s.size) h
  |_,_=>False
 | .capo x=>match aev ρ x with
  | .sl _ _ _ (some n)=>K (.int .i64 n) h
  |_=>False
 | .mnx mx x ys=>match aev ρ x with
  | .int k a=>mnxs mx k a (ys.map (aev ρ)) fun v=>K v h
  |_=>False
 | .app e esz bytes s x=>match aev ρ s,aev ρ x with
  | .sl ids offs n cs, .sl idx offx m _=>
   (m=0→K (.sl ids offs n cs) h)∧
   (m≠0→∃j r,idx=some j∧h.rows j=some r∧offx+m*esz≤r.cells.length∧(((r.cells.drop offx).take (m*esz)).all (·.one))=true∧(n+m)*bytes≤140737488355328∧n+m≤140737488355328∧
    ((ids=none∧n=0∧K (.sl (some h.next) 0 m none) (h.new ⟨some e,esz,(r.cells.drop offx).take (m*esz)⟩))∨
     (∃i q,ids=some i∧h.rows i=some q∧q.own=some e∧q.esz=esz∧offs=0∧n*esz≤q.cells.length∧
     K (.sl (some h.next) 0 (n+m) none) ((h.del ids).new ⟨some e,esz,q.cells.take (n*esz)++(r.cells.drop offx).take (m*esz)⟩))))
  |_,_=>False
 | .cpy esz d s=>match aev ρ d,aev ρ s with
  | .sl idd offd n _, .sl ids offs m _=>
   (min m n=0→K (.int .i64 0) h)∧
   (min m n≠0→∃i q j r,idd=some i∧h.rows i=some q∧q.own≠none∧ids=some j∧h.rows j=some r∧offs+min m n*esz≤r.cells.length∧offd+min m n*esz≤q.cells.length∧
    (((r.cells.drop offs).take (min m n*esz)).all (·.one))=true∧K (.int .i64 (min m n)) (h.set i {q with cells:=putAt q.cells offd ((r.cells.drop offs).take (min m n*esz))}))
  |_,_=>False
 | .mkf f first caps=>K (.fn f (first.map (aev ρ)) (caps.map (aev ρ))) h
 | .ext x i=>match aev ρ x with
  | .tup l=>∃v,l[i]? =some v∧K v h
  |_=>False
 | .call f args=>ACalls P f (args.map (aev ρ)) h K
 | .callV x args=>match aev ρ x with
  | .fn f first caps=>ACalls P f (first++args.map (aev ρ)++caps) h K
  |_=>False
 | .bad=>False
def cop (n:Nat):Operand→AO
 | .tmp t=>if t<n then .t t else .c .junk
 | .const v=> .c (ofV v)
 | .func f=> .f f
 | .global g=> .c (.gp g 0)
def szT (P:Program) (t:TypeId):Option (Option Nat):=
 match P.underlying t,P.info? t with
 |some (.struct _),some i=>some (some i.size)
 |some (.array _ _),some i=>some (some i.size)
 |some _,some _=>some none
 |_,_=>none
def aeqOk (P:Program) (t:TypeId):Bool:=
 !P.stoodInHeld t&& !P.eqGuardType P.depth t&&(P.fieldsOf t).toList.zipIdx.all fun p=>p.1.offset==p.2&&p.1.name != "_" &&(match P.underlying p.1.type with|some (.int _)=>true|_=>false)&&szT P p.1.type==some none
def cop2 (n:Nat) (p:Nat×Operand):Nat×AO:=(p.1,cop n p.2)
def compileOp (P:Program) (n:Nat) (o:Op):AOp:=
 match o with
 | .move x=> .mv (cop n x)
 | .assign x=> .mv (cop n x)
 | .pick c a b=> .pick (cop n c) (cop n a) (cop n b)
 | .binOp op t x y _=>match op,P.underlying t with
  | .eql,some .bool=> .beq false (cop n x) (cop n y)
  | .neq,some .bool=> .beq true (cop n x) (cop n y)
  | .eql,some (.pointer _)=> .peq false (cop n x) (cop n y)
  | .neq,some (.pointer _)=> .peq true (cop n x) (cop n y)
  | .add,some .string=> .cat (cop n x) (cop n y)
  | .eql,some .string=> .seq false (cop n x) (cop n y)
  | .neq,some .string=> .seq true (cop n x) (cop n y)
  | .eql,some (.struct fs)=>if aeqOk P t then .aeq false fs.size (cop n x) (cop n y) else .bad
  | .neq,some (.struct fs)=>if aeqOk P t then .aeq true fs.size (cop n x) (cop n y) else .bad
  |op,some (.int _)=> .bin op (cop n x) (cop n y)
  |_,_=> .bad
 | .unOp op _ x=> .un op (cop n x)
 | .convert s d x=>match P.underlying s,P.underlying d with
  |some (.int _),some (.int k)=> .cvI k (cop n x)
  |some (.slice e),some .string=>match P.underlying e with
   |some (.int .u8)=> .bts (cop n x)
   |_=> .bad
  |_,_=> .bad
 | .indexAddr t x i=>match P.underlying t with
  |some (.slice e)=>match P.info? e with
   |some ie=> .idx ie.size (cop n x) (cop n i)
   |none=> .bad
  |some (.array m e)=>match P.info? e with
   |some ie=> .idxA m ie.size (cop n x) (cop n i)
   |none=> .bad
  |_=> .bad
 | .index t x i=>match P.underlying t with
  |some .string=> .idxS (cop n x) (cop n i)
  |some (.array m e)=>match P.info? e,szT P e with
   |some ie,some s=> .idxV s m ie.size (cop n x) (cop n i)
   |_,_=> .bad
  |_=> .bad
 | .fieldAddr t x i=>match P.underlying t with
  |some (.struct fs)=>match fs[i]? with
   |some f=>match P.info? f.type with
    |some it=>if it.size=0 then .bad else .fld f.offset (cop n x)
    |none=> .bad
   |none=> .bad
  |_=> .bad
 | .load t p=>match szT P t with
  |some s=> .ld s (cop n p)
  |none=> .bad
 | .store t p v=>match P.info? t with
  |some i=> .st i.size (cop n p) (cop n v)
  |none=> .bad
 | .nilCheck x=> .nn (cop n x)
 | .field t x i=>match P.underlying t with
  |some (.struct fs)=>match fs[i]? with
   |some f=>match szT P f.type with
    |some s=> .prt s f.offset (cop n x)
    |none=> .bad
   |none=> .bad
  |_=> .bad
 | .slice t x lo hi none=>match P.underlying t with
  |some (.slice e)=>match P.info? e with
   |some ie=> .slc ie.size (cop n x) (lo.map (cop n)) (hi.map (cop n))
   |none=> .bad
  |_=> .bad
 | .makeSlice t l c=>match P.underlying t with
  |some (.slice e)=>match P.info? e with
   |some ie=>match ie.zero with
    |some z=>if z.cells.size=ie.size∧0<ie.size∧0<ie.bytes then .mk e ie.size ie.bytes (z.cells.toList.map ofC) (cop n l) (cop n c) else .bad
    |none=> .bad
   |none=> .bad
  |_=> .bad
 | .buildSlice t len parts=>match P.underlying t with
  |some (.slice e)=>match P.info? e with
   |some ie=>match ie.zero with
    |some z=>if z.cells.size=ie.size∧len*ie.size≤2^24∧len*ie.size≠0 then .bsl e ie.size len (z.cells.toList.map ofC) (parts.toList.map (cop2 n)) else .bad
    |none=> .bad
   |none=> .bad
  |_=> .bad
 | .build t parts=>match P.info? t,P.underlying t with
  |some it,some (.array _ e)=>match it.zero,P.info? e with
   |some z,some ie=> .bld (z.cells.toList.map ofC) (parts.toList.map fun p=>(p.1*ie.size,ie.size,cop n p.2))
   |_,_=> .bad
  |some it,some (.struct fields)=>match it.zero,fields.toList.mapM (fun f=>(P.info? f.type).map fun i=>(f.offset,i.size)) with
   |some z,some places=>match parts.toList.mapM (fun p=>(places[p.1]?).map fun q=>(q.1,q.2,cop n p.2)) with
    |some l=> .bld (z.cells.toList.map ofC) l
    |none=> .bad
   |_,_=> .bad
  |_,_=> .bad
 | .box e x=> .box e (cop n x)
 | .alloc e=>match P.info? e with
  |some i=>match i.zero with
   |some z=> .alloc e (z.cells.toList.map ofC)
   |none=> .bad
  |none=> .bad
 | .extract x i=> .ext (cop n x) i
 | .makeFunc (.func f) first caps=> .mkf f (first.toList.map (cop n)) (caps.toList.map (cop n))
 | .call c=>match c.callee with
  | .value (.func f)=> .call f (c.args.toList.map (cop n))
  | .value x=> .callV (cop n x) (c.args.toList.map (cop n))
  | .builtin .len=>match c.args.toList,c.argTypes.toList with
   |[x],[t]=>match P.underlying t with
    |some (.slice _)=> .len false (cop n x)
    |some .string=> .len true (cop n x)
    |_=> .bad
   |_,_=> .bad
  | .builtin .cap=>match c.args.toList,c.argTypes.toList with
   |[x],[t]=>match P.underlying t with
    |some (.slice _)=> .capo (cop n x)
    |_=> .bad
   |_,_=> .bad
  | .builtin .min=>match c.args.toList with
   |x::ys=> .mnx false (cop n x) (ys.map (cop n))
   |_=> .bad
  | .builtin .max=>match c.args.toList with
   |x::ys=> .mnx true (cop n x) (ys.map (cop n))
   |_=> .bad
  | .builtin .append=>match c.args.toList,c.argTypes.toList with
   |[s,x],[t,t']=>if t=t' then match P.underlying t with
    |some (.slice e)=>match P.info? e with
     |some ie=>match ie.zero with
      |some z=>if z.cells.size=ie.size∧0<ie.size then .app e ie.size ie.bytes (cop n s) (cop n x) else .bad
      |none=> .bad
     |none=> .bad
    |_=> .bad else .bad
   |_,_=> .bad
  | .builtin .copy=>match c.args.toList,c.argTypes.toList with
   |[d,s],[t,_]=>match P.underlying t with
    |some (.slice e)=>match P.info? e with
     |some ie=> .cpy ie.size (cop n d) (cop n s)
     |none=> .bad
    |_=> .bad
   |_,_=> .bad
  |_=> .bad
 |_=> .bad
def RelT (n:Nat) (μ:Mu) (ρ:Env) (a:Act):Prop:=a.tmps.size=n∧∀t,t<n→Rel μ (ρ t) (a.tmps.getD t undef)
theorem cop_rel {n:Nat} {μ:Mu} {ρ:Env} {a:Act} (h:RelT n μ ρ a) (x:Operand):Rel μ (aev ρ (cop n x)) (a.eval x):=by
 cases x with
 |tmp t=>
  simp only[cop]
  by_cases ht:t<n
  ·rw[if_pos ht];exact h.2 t ht
  ·rw[if_neg ht];exact .junk _
 |const v=>exact ofV_rel μ v
 |global g=>exact .gp g 0
 |func f=>exact .fn rfl (fun i u v hu=>by simp at hu) rfl (fun i u v hu=>by simp at hu)
theorem cops_rel {n:Nat} {μ:Mu} {ρ:Env} {a:Act} (h:RelT n μ ρ a) (l:List Operand):RelA μ ((l.map (cop n)).map (aev ρ)) (l.map a.eval):=
 ⟨by simp,fun i u v hu hv=>by
  simp only[List.getElem?_map,Option.map_map] at hu hv
  cases hl:l[i]? with
  |none=>rw[hl] at hu;simp at hu
  |some x=>
   rw[hl] at hu hv
   simp at hu hv
   subst hu;subst hv
   exact cop_rel h x⟩
section
def Fin (base:Nat) (w0:World) (μ:Mu) (K:AV→H→Prop) (rv:Value) (w':World):Prop:=∃μ' v h',μ.le μ'∧Rel μ' v rv∧Rep base w0 μ' w' h'∧K v h'
section
variable {P:Program} {base:Nat} {w0 w:World} {μ:Mu} {h:H} {K:AV→H→Prop}
theorem Fin.same (R:Rep base w0 μ w h) {v:AV} {rv:Value} (hr:Rel μ v rv) (hk:K v h):Fin base w0 μ K rv w:=⟨μ,v,h,μ.le_refl,hr,R,hk⟩
theorem bin_int {op:BinOp} {t:TypeId} {k:IntKind} {a b:Int} {Kv:AV→Prop} (h:abin op k a b Kv):
  ∃v,(binOp op t (.int k a) (.int k b)).run P w= .ok v w∧∃u,Kv u∧∀μ:Mu,Rel μ u v:=by
 cases op<;>simp only[abin] at h
 all_goals first
  |exact h.elim
  |(refine⟨_, ?_,_,h,fun μ=> .int _ _⟩;simp[binOp,Op.intArith,Op.intBits];done)
  |(refine⟨_, ?_,_,h,fun μ=> .bool _⟩;simp[binOp,Op.intCmp];done)
  |(refine⟨_, ?_,_,h.2,fun μ=> .int _ _⟩;simp[binOp,Op.intDiv,h.1];done)
theorem bin_shift {op:BinOp} {t:TypeId} {k k':IntKind} {a b:Int} {Kv:AV→Prop} (ho:op= .shl∨op= .shr) (h:ashift op k a b Kv):
  ∃v,(binOp op t (.int k a) (.int k' b)).run P w= .ok v w∧∃u,Kv u∧∀μ:Mu,Rel μ u v:=by
 rcases ho with rfl|rfl<;>simp only[ashift] at h
 all_goals
  obtain⟨h0,h⟩:=h
  have h1:¬b<0:=by omega
  refine⟨_, ?_,_,h,fun μ=> .int _ _⟩
  simp[binOp,Op.shift,h1]
theorem bin_any {op:BinOp} {t:TypeId} {x y:AV} {vx vy:Value} {Kv:AV→Prop} (hx:Rel μ x vx) (hy:Rel μ y vy) (h:abinV op x y Kv):
  ∃v,(binOp op t vx vy).run P w= .ok v w∧∃u,Kv u∧∀μ:Mu,Rel μ u v:=by
 unfold abinV at h
 split at h
 ·cases hx
  cases hy
  split at h
  ·exact bin_shift (.inl rfl) h
  ·exact bin_shift (.inr rfl) h
  ·obtain⟨rfl,h⟩:=h
   exact bin_int h
 ·exact h.elim
theorem guard_int {op:BinOp} {t:TypeId} {x y:Operand} {k k':IntKind} {a b:Int}:(eqGuard op t x y (.int k a) (.int k' b)).run P w= .ok () w:=by
 unfold eqGuard
 cases op<;>rfl
theorem guard_bool {op:BinOp} {t:TypeId} {x y:Operand} {a b:Bool}:(eqGuard op t x y (.bool a) (.bool b)).run P w= .ok () w:=by
 unfold eqGuard
 cases op<;>rfl
theorem eq_bool {t:TypeId} (ht:P.underlying t=some .bool) (a b:Bool):(Op.equal t (.bool a) (.bool b)).run P w= .ok (a==b) w:=by
 have hh:∀d,(Op.equalIn (d+1) t (.bool a) (.bool b)).run P w= .ok (a==b) w:=fun d=>by simp[Op.equalIn,run_underlying ht]
 exact hh 9999
theorem un_any {op:UnOp} {x:AV} {vx:Value} (hx:Rel μ x vx) (R:Rep base w0 μ w h)
  (hk:match(generalizing:=false) op,x with
   | .neg, .int k n=>K (.int k (k.wrap (0-n))) h
   | .xor, .int k n=>K (.int k (k.wrap (BitVec.ofInt k.bits (if k.signed then-1 else k.max)^^^BitVec.ofInt k.bits n).toNat)) h
   | .not, .bool b=>K (.bool (!b)) h
   |_,_=>False):∃v,(Op.unary op vx).run P w= .ok v w∧Fin base w0 μ K v w:=by
 cases op<;>cases hx<;>first|exact hk.elim|exact⟨_,rfl,Fin.same R (.int _ _) hk⟩|exact⟨_,rfl,Fin.same R (.bool _) hk⟩
theorem szOf {t:TypeId} {i:TypeInfo} (hi:P.info? t=some i):(sizeOf t).run P w= .ok i.size w:=by simp[sizeOf,typeInfo,hi]
theorem szT_none {t:TypeId} (ht:szT P t=some none):(isAgg t).run P w= .ok false w:=by
 unfold szT at ht
 split at ht
 ·cases ht
 ·cases ht
 ·rename_i d i hn1 hn2 hd hi
  unfold isAgg
  rw[Sem.run_bind,run_underlying hd,Result.andThen_ok]
  cases d<;>first|rfl|(exfalso;first|exact hn1 _ rfl|exact hn2 _ _ rfl)
 ·cases ht
theorem szT_some {t:TypeId} {n:Nat} (ht:szT P t=some (some n)):(isAgg t).run P w= .ok true w∧(sizeOf t).run P w= .ok n w:=by
 unfold szT at ht
 split at ht
 ·rename_i hd hi
  injection ht with ht
  injection ht with ht
  subst ht
  exact⟨by unfold isAgg;rw[Sem.run_bind,run_underlying hd,Result.andThen_ok];rfl,szOf hi⟩
 ·rename_i hd hi
  injection ht with ht
  injection ht with ht
  subst ht
  exact⟨by unfold isAgg;rw[Sem.run_bind,run_underlying hd,Result.andThen_ok];rfl,szOf hi⟩
 ·cases ht
 ·cases ht
theorem guard_str {op:BinOp} {t:TypeId} {x y:Operand} {a b:ByteArray}:(eqGuard op t x y (.string a) (.string b)).run P w= .ok () w:=by
 unfold eqGuard
 cases op<;>rfl
theorem eqs_cons {u v:AV} {l m:List AV} {b:Bool} (h:eqs (u::l) (v::m)=some b):∃k a c,u= .int k a∧v= .int k c∧(if a==c then eqs l m else some false)=some b:=by
 cases u<;>cases v<;>try (simp[eqs] at h;done)
 rename_i k a k' c
 simp only[eqs] at h
 split at h
 ·rename_i e;subst e;exact⟨k,a,c,rfl,rfl,h⟩
 ·cases h
theorem eq_fields {xs ys:Array Value} {l m:List AV} (h1:RelA μ l xs.toList) (h2:RelA μ m ys.toList):∀(fs:List Field) (i:Nat) (b:Bool),(∀j f,fs[j]? =some f→f.offset=i+j∧f.name≠ "_" ∧(∃k,P.underlying f.type=some (.int k))∧szT P f.type=some none)→
  l.length=i+fs.length→m.length=i+fs.length→eqs (l.drop i) (m.drop i)=some b→(Op.eqFields 9999 xs ys fs).run P w= .ok b w
 |[],i,b,_,hl,hm,hb=>by
  rw[List.drop_eq_nil_of_le (by simp at hl;omega),List.drop_eq_nil_of_le (by simp at hm;omega)] at hb
  simp only[eqs] at hb
  injection hb with hb
  subst hb
  rfl
 |f::fs,i,b,hf,hl,hm,hb=>by
  simp only[List.length_cons] at hl hm
  obtain⟨f1,f2,⟨k,f3⟩,f4⟩:=hf 0 f rfl
  have hil:i<l.length:=by omega
  have him:i<m.length:=by omega
  rw[List.drop_eq_getElem_cons hil,List.drop_eq_getElem_cons him] at hb
  have g1:=h1.1
  have g2:=h2.1
  simp only[Array.length_toList] at g1 g2
  have r1:=h1.2 i l[i] xs[i] (List.getElem?_eq_getElem hil) (by simp[show i<xs.size by omega])
  have r2:=h2.2 i m[i] ys[i] (List.getElem?_eq_getElem him) (by simp[show i<ys.size by omega])
  have p1:(part f.type xs f.offset).run P w= .ok xs[i] w:=by
   simp[part,szT_none f4,f1,show i<xs.size by omega]
  have p2:(part f.type ys f.offset).run P w= .ok ys[i] w:=by
   simp[part,szT_none f4,f1,show i<ys.size by omega]
  simp only[Op.eqFields,if_pos f2,Sem.run_bind,p1,p2,Result.andThen_ok]
  obtain⟨k1,a,c,e1,e2,hb⟩:=eqs_cons hb
  rw[e1] at r1
  rw[e2] at r2
  generalize xs[i]=x at r1⊢
  generalize ys[i]=y at r2⊢
  cases r1
  cases r2
  rw[run_equalIn_int w 9998 f.type k1 k a c f3,Result.andThen_ok]
  split at hb
  ·rename_i he
   rw[he]
   simp only[Bool.not_true,Bool.false_eq_true,if_false]
   exact eq_fields h1 h2 fs (i+1) b (fun j g hg=>by
    have:=hf (j+1) g (by simpa using hg)
    rw[show i+1+j=i+(j+1) by omega]
    exact this) (by omega) (by omega) hb
  ·rename_i he
   rw[show(a==c)=false by simpa using he]
   injection hb with hb
   subst hb
   rfl
theorem aeq_ok {t:TypeId} {fs:Array Field} (ht:P.underlying t=some (.struct fs)) (hok:aeqOk P t=true) {l m:List AV} {xs ys:Array Value} (h1:RelA μ l xs.toList) (h2:RelA μ m ys.toList) {b:Bool}
  (hl:l.length=fs.size) (hm:m.length=fs.size) (hb:eqs l m=some b):(Op.equalIn 10000 t (.agg xs) (.agg ys)).run P w= .ok b w∧P.eqGuardType P.depth t=false:=by
 have hfo:P.fieldsOf t=fs:=by simp[Program.fieldsOf,ht]
 unfold aeqOk at hok
 simp only[Bool.and_eq_true,Bool.not_eq_true',hfo,List.all_eq_true] at hok
 obtain⟨⟨o1,o2⟩,o3⟩:=hok
 refine⟨?_,o2⟩
 rw[run_equalIn_struct w 9999 t xs ys (by rw[hfo];exact ht) o1,hfo]
 refine eq_fields h1 h2 fs.toList 0 b (fun j f hf=> ?_) (by simpa using hl) (by simpa using hm) (by simpa using hb)
 have hj:=o3 (f,j) (by
  rw[List.mem_iff_getElem?]
  exact⟨j,by rw[List.getElem?_zipIdx,hf];simp⟩)
 simp only[beq_iff_eq,bne_iff_ne,ne_eq] at hj
 refine⟨by omega,hj.1.1.2, ?_,hj.2⟩
 have:=hj.1.2
 split at this
 ·rename_i k hk;exact⟨k,hk⟩
 ·cases this
theorem row_cells {p:Pl} {r:Row} (hr:RowRep base μ w p r) (off n:Nat) (hl:off+n≤r.cells.length):
  ∃cs:List Value,cs.length=n∧(∀j v,cs[j]? =some v→w.cell? ((p.addr.add off).add j)=some v)∧RelA μ ((r.cells.drop off).take n) cs:=by
 induction n with
 |zero=>exact⟨[],rfl,fun j v hv=>by simp at hv,by simpa using RelA.nil μ⟩
 |succ n ih=>
  obtain⟨cs,h1,h2,h3⟩:=ih (by omega)
  have hu:r.cells[off+n]? =some r.cells[off+n]:=List.getElem?_eq_getElem (by omega)
  obtain⟨v,hv,hR⟩:=hr.cell hu
  refine⟨cs++[v],by simp[h1],fun j u hu'=> ?_, ?_⟩
  ·rcases Nat.lt_or_ge j cs.length with hj|hj
   ·rw[List.getElem?_append_left hj] at hu'
    exact h2 j u hu'
   ·rw[List.getElem?_append_right hj] at hu'
    have hj0:j-cs.length=0:=by
     rcases Nat.eq_zero_or_pos (j-cs.length) with e|e
     ·exact e
     ·rw[List.getElem?_eq_none (by simp;omega)] at hu';cases hu'
    rw[hj0] at hu'
    simp at hu'
    subst hu'
    have:j=n:=by omega
    subst this
    rw[add_add]
    exact hv
  ·have:(r.cells.drop off).take (n+1)=(r.cells.drop off).take n++[r.cells[off+n]]:=by
    rw[List.take_succ_eq_append_getElem (by simp;omega)]
    simp
   rw[this]
   exact h3.append ((RelA.nil μ).cons hR)
theorem load_any {t:TypeId} {s:Option Nat} (ht:szT P t=some s) {p:AV} {vp:Value} (hp:Rel μ p vp) (R:Rep base w0 μ w h)
  (hk:match(generalizing:=false) p with
   | .ptr (some (id,off))=>match(generalizing:=false) s with
    |none=>∃r v,h.rows id=some r∧r.cells[off]? =some v∧K v h
    |some n=>∃r,h.rows id=some r∧off+n≤r.cells.length∧K (.agg ((r.cells.drop off).take n)) h
   | .gp g off=>match(generalizing:=false) s with
    |none=>∃n,gcell g off=some n∧K (.int .u8 n) h
    |some _=>False
   |_=>False):∃v,(Instr.loadAt t vp).run P w= .ok v w∧Fin base w0 μ K v w:=by
 cases hp with
 | @ptr id off q hq=>
  cases s with
  |none=>
   obtain⟨r,v,hr,hv,hk⟩:=hk
   obtain⟨q',hq',hR⟩:=R.row _ r hr
   rw[hq] at hq'
   injection hq' with hq'
   subst hq'
   obtain⟨rv,hc,hrel⟩:=hR.cell hv
   refine⟨rv, ?_,Fin.same R hrel hk⟩
   simp[Instr.loadAt,Instr.sureAddr,loadVar,szT_none ht,hc]
  |some n=>
   obtain⟨r,hr,hl,hk⟩:=hk
   obtain⟨q',hq',hR⟩:=R.row _ r hr
   rw[hq] at hq'
   injection hq' with hq'
   subst hq'
   obtain⟨cs,h1,h2,h3⟩:=row_cells hR off n hl
   have hload:=run_loadCells_list (P:=P) w _ cs h2
   rw[h1] at hload
   refine⟨.agg cs.toArray, ?_,Fin.same R h3.agg hk⟩
   simp[Instr.loadAt,Instr.sureAddr,loadVar,(szT_some ht).1,(szT_some ht).2,hload]
 |gp g off=>
  cases s with
  |none=>
   obtain⟨n,hg,hk⟩:=hk
   refine⟨.int .u8 n, ?_,Fin.same R (.int _ _) hk⟩
   simp[Instr.loadAt,Instr.sureAddr,loadVar,szT_none ht,R.gcell hg]
  |some n=>exact hk.elim
 |_=>exact hk.elim
theorem u8_cells {l:List AV}:∀{cs:List Value},RelA μ l cs→allU8 l=true→∃xs:List Int,cs=xs.map (Value.int .u8)∧bytesOf l=strOfNums xs:=by
 induction l with
 |nil=>
  intro cs h _
  obtain rfl:cs=[]:=List.eq_nil_of_length_eq_zero (by have:=h.1;simpa using this.symm)
  exact⟨[],rfl,rfl⟩
 |cons u l ih=>
  intro cs h ha
  cases cs with
  |nil=>have:=h.1;simp at this
  |cons v cs=>
   have hu:=h.2 0 u v rfl rfl
   have hr:RelA μ l cs:=⟨by have:=h.1;simpa using this,fun i u v h1 h2=>h.2 (i+1) u v (by simpa using h1) (by simpa using h2)⟩
   unfold allU8 at ha
   rw[List.all_cons,Bool.and_eq_true] at ha
   obtain⟨xs,rfl,e⟩:=ih hr ha.2
   have h0:=ha.1
   split at h0
   ·rename_i n
    cases hu
    refine⟨n::xs,rfl, ?_⟩
    unfold bytesOf strOfNums at*
    injection e with e
    have e2:=congrArg Array.toList e
    simp only[List.map_cons] at*
    congr 1
    apply Array.toList_inj.1
    simpa [byteOf] using e2
   ·cases h0
theorem bts_any {s d e:TypeId} (hs:P.underlying s=some (.slice e)) (he:P.underlying e=some (.int .u8)) (hd:P.underlying d=some .string) {x:AV} {vx:Value} (hx:Rel μ x vx) (R:Rep base w0 μ w h)
  (hk:match(generalizing:=false) x with
   | .sl (some id) off n _=>∃r,h.rows id=some r∧0<n∧off+n≤r.cells.length∧allU8 ((r.cells.drop off).take n)=true∧K (.str (bytesOf ((r.cells.drop off).take n))) h
   |_=>False):∃v,(convert s d vx).run P w= .ok v w∧Fin base w0 μ K v w:=by
 cases hx with
 | @sl id off n c q cap A hq hA hl hc ht=>
  obtain⟨r,hr,hn,hb,h8,hk⟩:=hk
  obtain⟨q',hq',hR⟩:=R.row _ r hr
  rw[hq] at hq'
  injection hq' with hq'
  subst hq'
  obtain rfl:A=some (q.addr.add off):=hA.resolve_left (by omega)
  obtain⟨cs,h1,h2,h3⟩:=row_cells hR off n hb
  have hload:=run_loadCells_list (P:=P) w _ cs h2
  rw[h1] at hload
  obtain⟨xs,rfl,e1⟩:=u8_cells h3 h8
  refine⟨.string (strOfNums xs), ?_,Fin.same R (.str _) (by rw[←e1];exact hk)⟩
  rw[run_convert_bytes_string w s d e _ n cap hs he hd,run_bytesToString w _ n cap xs hload,foldl_push_bytes]
  simp[strOfNums,ByteArray.empty,ByteArray.emptyWithCapacity]
  rfl
 |_=>exact hk.elim
theorem putAt_length {l m:List AV} {off:Nat} (hl:off+m.length≤l.length):(putAt l off m).length=l.length:=by
 unfold putAt
 simp
 omega
theorem putAt_rel {l m:List AV} {vs us:List Value} (h:RelA μ l vs) (hm:RelA μ m us) (off:Nat):RelA μ (putAt l off m) (vs.take off++us++vs.drop (off+us.length)):=by
 unfold putAt
 rw[hm.1]
 exact((h.take off).append hm).append (h.drop _)
theorem write_cells (R:Rep base w0 μ w h) {id:Nat} {r:Row} {p:Pl} (hr:h.rows id=some r) (ho:r.own≠none) (hp:μ id=some p) {off:Nat} {m:List AV} {us:List Value} (hm:RelA μ m us) (h1:∀v∈us,v.oneCell'=true)
  (hl:off+m.length≤r.cells.length):∃w',(storeCells (p.addr.add off) us).run P w= .ok () w'∧Rep base w0 μ w' (h.set id {r with cells:=putAt r.cells off m}):=by
 obtain⟨q,hq,hR⟩:=R.row id r hr
 rw[hp] at hq
 injection hq with hq
 subst hq
 obtain⟨t,hown⟩:∃t,r.own=some t:=Option.ne_none_iff_exists'.1 ho
 ·have hR':=hR
  unfold RowRep at hR'
  simp only[hown] at hR'
  obtain⟨g,cur,e1,e2,e3,e4,e5,e6,e7,e8⟩:=hR'
  have hst:=run_storeCells_at P g off t us 0 cur w e4 (by rw[←hm.1];omega) h1
  rw[e1,add_plain,Nat.zero_add]
  simp only[Nat.add_zero] at hst
  refine⟨_,hst, ?_⟩
  have hsz:(cur.toList.take off++us++cur.toList.drop (off+us.length)).toArray.size=cur.size:=by
   have:=hm.1
   simp
   omega
  refine R.write hr hown hp (cur:=cur) (cur':=(cur.toList.take off++us++cur.toList.drop (off+us.length)).toArray) (by rw[e1];exact e4) (by rw[e1];show(w.setRow g _).heap[g]? =_;exact setRow_heap w g cur _ t _ e4) hsz
   (fun b hb=>setRow_other w g b _ (by rw[e1] at hb;exact hb)) (by simp) rfl rfl rfl (by rw[putAt_length hl,hsz];exact e7) (fun j u hu=> ?_)
  unfold putAt at hu
  have hus:=hm.1
  rcases Nat.lt_or_ge j off with hj|hj
  ·rw[List.append_assoc,List.getElem?_append_left (by simp;omega),List.getElem?_take,if_pos hj] at hu
   obtain⟨v,hv,hrel⟩:=e8 j u hu
   refine⟨v, ?_,hrel⟩
   rw[List.getElem?_toArray,List.append_assoc,List.getElem?_append_left (by simp;omega),List.getElem?_take,if_pos hj]
   simpa using hv
  ·rcases Nat.lt_or_ge j (off+m.length) with hj2|hj2
   ·rw[List.append_assoc,List.getElem?_append_right (by simp;omega),List.getElem?_append_left (by simp;omega)] at hu
    have hmin:(r.cells.take off).length=off:=by simp;omega
    rw[hmin] at hu
    have hjl:j-off<us.length:=by omega
    refine⟨us[j-off], ?_,hm.2 (j-off) u _ hu (List.getElem?_eq_getElem hjl)⟩
    have hmin2:(cur.toList.take off).length=off:=by simp;omega
    rw[List.getElem?_toArray,List.append_assoc,List.getElem?_append_right (by omega),hmin2,List.getElem?_append_left hjl,List.getElem?_eq_getElem hjl]
   ·have hmin:(r.cells.take off++m).length=off+m.length:=by simp;omega
    rw[List.getElem?_append_right (by omega),hmin,List.getElem?_drop] at hu
    rw[show off+m.length+(j-(off+m.length))=j from by omega] at hu
    obtain⟨v,hv,hrel⟩:=e8 j u hu
    refine⟨v, ?_,hrel⟩
    have hmin2:(cur.toList.take off++us).length=off+us.length:=by simp;omega
    rw[List.getElem?_toArray,List.getElem?_append_right (by omega),hmin2,List.getElem?_drop,show off+us.length+(j-(off+us.length))=j from by omega]
    simpa using hv
theorem store_any {t:TypeId} {i:TypeInfo} (hi:P.info? t=some i) {p v:AV} {vp vv:Value} (hp:Rel μ p vp) (hv:Rel μ v vv) (R:Rep base w0 μ w h)
  (hk:match(generalizing:=false) p with
   | .ptr (some (id,off))=>∃r,h.rows id=some r∧r.own≠none∧v.held=true∧v.cells.length=i.size∧off+i.size≤r.cells.length∧(v.cells.all (·.one))=true∧K .junk (h.set id {r with cells:=putAt r.cells off v.cells})
   |_=>False):∃w',(Instr.storeAt t vp vv).run P w= .ok () w'∧Fin base w0 μ K undef w':=by
 cases hp with
 | @ptr id off q hq=>
  obtain⟨r,hr,ho,hh,hl,hfit,h1,hk⟩:=hk
  have hc:=hv.cells hh
  obtain⟨w',hw,R'⟩:=write_cells (P:=P) R hr ho hq hc (hc.oneCell (by simpa using h1)) (by rw[hl];exact hfit)
  have hsz:vv.cells.size=i.size:=by have:=hc.1;simp at this;omega
  refine⟨w', ?_,⟨μ, .junk,_,μ.le_refl, .junk _,R',hk⟩⟩
  simp[Instr.storeAt,Instr.sureAddr,storeVar,szOf hi,hsz,hw]
 |_=>exact hk.elim
end
end
section
section
variable {P:Program} {base:Nat} {w0 w:World} {μ:Mu} {h:H} {K:AV→H→Prop}
theorem index_slice {t e:TypeId} {ie:TypeInfo} (ht:P.underlying t=some (.slice e)) (hi:P.info? e=some ie) {x i:AV} {vx vi:Value} (hx:Rel μ x vx) (hv:Rel μ i vi) (R:Rep base w0 μ w h)
  (hk:match(generalizing:=false) x,i with
   | .sl (some id) off len _, .int _ n=>0≤n∧n<len∧K (.ptr (some (id,off+n.toNat*ie.size))) h
   |_,_=>False):∃v,(Instr.indexAt t vx vi).run P w= .ok v w∧Fin base w0 μ K v w:=by
 cases hx with
 | @sl id off len c p cap A hp hA hl hc hT=>
  cases hv with
  |int k n=>
   obtain⟨h0,h1,hk⟩:=hk
   have hcap:cap≠0:=by omega
   rcases hA with hA|rfl
   ·exact absurd hA hcap
   ·refine⟨_, ?_,Fin.same R (.ptr hp) hk⟩
    simp[Instr.indexAt,asIntOf,run_underlying ht,h0,h1,szOf hi,add_add]
  |_=>exact hk.elim
 |_=>exact hk.elim
theorem index_array {t e:TypeId} {m:Nat} {ie:TypeInfo} (ht:P.underlying t=some (.array m e)) (hi:P.info? e=some ie) {x i:AV} {vx vi:Value} (hx:Rel μ x vx) (hv:Rel μ i vi) (R:Rep base w0 μ w h)
  (hk:match(generalizing:=false) x,i with
   | .ptr (some (id,off)), .int _ n=>0≤n∧n<m∧K (.ptr (some (id,off+n.toNat*ie.size))) h
   | .gp g off, .int _ n=>0≤n∧n<m∧K (.gp g (off+n.toNat*ie.size)) h
   |_,_=>False):∃v,(Instr.indexAt t vx vi).run P w= .ok v w∧Fin base w0 μ K v w:=by
 cases hx with
 | @ptr id off p hp=>
  cases hv with
  |int k n=>
   obtain⟨h0,h1,hk⟩:=hk
   refine⟨_, ?_,Fin.same R (.ptr hp) hk⟩
   simp[Instr.indexAt,Instr.sureAddr,asIntOf,run_underlying ht,h0,h1,szOf hi,add_add]
  |_=>exact hk.elim
 |gp g off=>
  cases hv with
  |int k n=>
   obtain⟨h0,h1,hk⟩:=hk
   refine⟨_, ?_,Fin.same R (.gp g (off+n.toNat*ie.size)) hk⟩
   simp[Instr.indexAt,Instr.sureAddr,asIntOf,run_underlying ht,h0,h1,szOf hi,add_plain]
  |_=>exact hk.elim
 |_=>exact hk.elim
theorem field_addr {t:TypeId} {fs:Array Field} {f:Field} {i:Nat} {it:TypeInfo} (ht:P.underlying t=some (.struct fs)) (hf:fs[i]? =some f) (hi:P.info? f.type=some it) (hz:¬it.size=0) {x:AV} {vx:Value} (hx:Rel μ x vx) (R:Rep base w0 μ w h)
  (hk:match(generalizing:=false) x with
   | .ptr (some (id,o))=>K (.ptr (some (id,o+f.offset))) h
   |_=>False):∃v,(Instr.fieldAt t vx i).run P w= .ok v w∧Fin base w0 μ K v w:=by
 cases hx with
 | @ptr id off p hp=>
  refine⟨_, ?_,Fin.same R (.ptr hp) hk⟩
  simp[Instr.fieldAt,Instr.sureAddr,run_underlying ht,hf,fieldPlace,szOf hi,hz,add_add]
 |_=>exact hk.elim
theorem rel_get {l:List AV} {vs:Array Value} (h1:l.length=vs.size) (h2:∀(i:Nat) (u:AV) (v:Value),l[i]? =some u→vs[i]? =some v→Rel μ u v) {j:Nat} {u:AV} (hu:l[j]? =some u):∃v,vs[j]? =some v∧Rel μ u v:=by
 have hj:j<l.length:=(List.getElem?_eq_some_iff.1 hu).1
 exact⟨vs[j]'(by omega),Array.getElem?_eq_getElem (by omega),h2 j u _ hu (Array.getElem?_eq_getElem (by omega))⟩
theorem field_of {t:TypeId} {fs:Array Field} {f:Field} {i:Nat} {s:Option Nat} (ht:P.underlying t=some (.struct fs)) (hf:fs[i]? =some f) (hi:szT P f.type=some s) {x:AV} {vx:Value} (hx:Rel μ x vx) (R:Rep base w0 μ w h)
  (hk:match(generalizing:=false) x with
   | .agg l=>match(generalizing:=false) s with
    |none=>∃v,l[f.offset]? =some v∧K v h
    |some n=>f.offset+n≤l.length∧K (.agg ((l.drop f.offset).take n)) h
   |_=>False):∃v,(Instr.field t vx i).run P w= .ok v w∧Fin base w0 μ K v w:=by
 cases hx with
 | @agg l vs h1 h2=>
  cases s with
  |none=>
   obtain⟨u,hu,hk⟩:=hk
   obtain⟨v,hv,hr⟩:=rel_get h1 h2 hu
   refine⟨v, ?_,Fin.same R hr hk⟩
   simp[Instr.field,asAgg,run_underlying ht,hf,part,szT_none hi,hv]
  |some n=>
   obtain⟨hl,hk⟩:=hk
   have hr:RelA μ l vs.toList:=⟨by simpa using h1,fun i u v hu hv=>h2 i u v hu (by simpa using hv)⟩
   refine⟨.agg ((vs.toList.drop f.offset).take n).toArray, ?_,Fin.same R ((hr.drop _).take n).agg hk⟩
   simp only[Instr.field,asAgg,Sem.run_bind,run_underlying ht,Result.andThen_ok,hf,part,(szT_some hi).1,(szT_some hi).2,Sem.run_pure,if_true]
   congr 2
   apply Array.ext'
   simp[List.extract_eq_take_drop]
 |_=>exact hk.elim
theorem index_value {t e:TypeId} {m:Nat} {ie:TypeInfo} {s:Option Nat} (ht:P.underlying t=some (.array m e)) (hi:P.info? e=some ie) (hs:szT P e=some s) {x i:AV} {vx vi:Value} (hx:Rel μ x vx) (hv:Rel μ i vi) (R:Rep base w0 μ w h)
  (hk:match(generalizing:=false) x,i with
   | .agg l, .int _ n=>0≤n∧n<m∧(match(generalizing:=false) s with
    |none=>∃v,l[n.toNat*ie.size]? =some v∧K v h
    |some s=>n.toNat*ie.size+s≤l.length∧K (.agg ((l.drop (n.toNat*ie.size)).take s)) h)
   |_,_=>False):∃v,(Instr.index t vx vi).run P w= .ok v w∧Fin base w0 μ K v w:=by
 cases hx with
 | @agg l vs h1 h2=>
  cases hv with
  |int k n=>
   obtain⟨b0,b1,hk⟩:=hk
   cases s with
   |none=>
    obtain⟨u,hu,hk⟩:=hk
    obtain⟨v,hv,hr⟩:=rel_get h1 h2 hu
    refine⟨v, ?_,Fin.same R hr hk⟩
    simp[Instr.index,asIntOf,run_underlying ht,b0,b1,szOf hi,part,szT_none hs,hv]
   |some z=>
    have hz:ie.size=z:=by
     unfold szT at hs
     rw[hi] at hs
     split at hs<;>simp_all
    obtain⟨hl,hk⟩:=hk
    have hr:RelA μ l vs.toList:=⟨by simpa using h1,fun i u v hu hv=>h2 i u v hu (by simpa using hv)⟩
    refine⟨.agg ((vs.toList.drop (n.toNat*ie.size)).take z).toArray, ?_,Fin.same R ((hr.drop _).take z).agg hk⟩
    have hc:0≤n∧n<(m:Int):=⟨b0,b1⟩
    simp only[Instr.index,asIntOf,Sem.run_bind,Sem.run_pure,run_underlying ht,Result.andThen_ok,if_pos hc,szOf hi,part,(szT_some hs).1,(szT_some hs).2,if_true]
    congr 2
    apply Array.ext'
    simp[List.extract_eq_take_drop,hz]
  |_=>exact hk.elim
 |_=>exact hk.elim
theorem slice_any {t e:TypeId} {ie:TypeInfo} (ht:P.underlying t=some (.slice e)) (hi:P.info? e=some ie) {x:AV} {vx:Value} (hx:Rel μ x vx) (R:Rep base w0 μ w h) {lo hi':Option Value} {a b:Nat}
  {id:Option Nat} {off len:Nat} {cap:Option Nat} (hxe:x= .sl id off len cap) (hb:match hi' with|none=>b=len|some v=>∃k m,v= .int k m∧0≤m∧b=m.toNat) (ha:match lo with|none=>a=0|some v=>∃k m,v= .int k m∧0≤m∧a=m.toNat)
  (hab:a≤b) (hbc:b≤len∨∃c,cap=some c∧b≤c) (hk:K (.sl id (off+a*ie.size) (b-a) (cap.map (· -a))) h) (hsz':∀i,id=some i→∃r,h.rows i=some r∧(r.own=none∨r.esz=ie.size)):
  ∃v,(Instr.sliceAt t vx lo hi' none).run P w= .ok v w∧Fin base w0 μ K v w:=by
 have run:∀(A:Option Addr) (c:Nat),b≤c→len≤c→(Instr.sliceAt t (.slice A len c) lo hi' none).run P w= .ok (.slice (if c=a then A else A.map (·.add (a*ie.size))) (b-a) (c-a)) w:=by
  intro A c hbc hlc
  have h1:(match hi',(none:Option Value) with
    |some v,some _=>Instr.sliceBound v c .slice3B
    |some v,none=>Instr.sliceBound v c .sliceAcap
    |none,none=>pure len
    |none,some _=>stuck "Slice: max without high" :Sem Nat).run P w= .ok b w:=by
   cases hi' with
   |none=>subst hb;rfl
   |some v=>
    obtain⟨k,m,rfl,h0,rfl⟩:=hb
    simp[Instr.sliceBound,asIntOf,h0,show m≤(c:Int) from by omega]
  have h2:(match lo with
    |some v=>Instr.sliceBound v b .sliceB
    |none=>pure 0:Sem Nat).run P w= .ok a w:=by
   cases lo with
   |none=>subst ha;rfl
   |some v=>
    obtain⟨k,m,rfl,h0,rfl⟩:=ha
    simp[Instr.sliceBound,asIntOf,h0,show m≤(b:Int) from by omega]
  unfold Instr.sliceAt
  rw[Sem.run_bind,run_underlying ht,Result.andThen_ok]
  simp only[Instr.slice,Sem.run_bind,run_underlying ht,Result.andThen_ok,Instr.sliceBounds,if_true,Sem.run_pure]
  cases hi'<;>cases lo<;>simp_all [szOf hi]
 have hsz:∀p,(∃i,id=some i∧μ i=some p)→p.tot≠none→p.esz=ie.size:=by
  rintro p ⟨i,hid,hp⟩ htot
  obtain⟨r,hr,hor⟩:=hsz' i hid
  obtain⟨q,hq,hR⟩:=R.row i r hr
  rw[hp] at hq
  injection hq with hq
  subst hq
  unfold RowRep at hR
  split at hR
  ·exact absurd hR.2.1 htot
  ·rename_i t' hown
   obtain⟨g,cur,_,_,h3,_⟩:=hR
   rcases hor with hor|hor
   ·rw[hown] at hor;cases hor
   ·rw[h3,hor]
 subst hxe
 cases hx with
 | @snil A _ hc=>
  have hb0:b=0:=by
   rcases hbc with hbc|⟨c,rfl,hbc⟩
   ·omega
   ·have:=hc c rfl;omega
  have ha0:a=0:=by omega
  subst hb0
  subst ha0
  refine⟨_,run A 0 (Nat.le_refl _) (Nat.le_refl _),Fin.same R (v:= .sl none 0 0 (cap.map (· -0))) (Rel.snil ?_) (by simpa using hk)⟩
  intro x hx
  cases cap with
  |none=>simp at hx
  |some c=>simp at hx;have:=hc c rfl;omega
 | @sl id off len c p cp A hp hA hl hc hT=>
  have hbc':b≤cp:=by
   rcases hbc with hbc|⟨c',rfl,hbc⟩
   ·omega
   ·have:=hc c' rfl;omega
  refine⟨_,run A cp hbc' hl,Fin.same R (Rel.sl hp (cap:=cp-a) ?_ (by omega) (fun x hx=> ?_) (fun T hT'=> ?_)) hk⟩
  ·by_cases hca:cp=a
   ·left;omega
   ·right
    rcases hA with hA|rfl
    ·omega
    ·rw[if_neg hca];simp[add_add]
  ·cases cap with
   |none=>simp at hx
   |some c=>simp at hx;have:=hc c rfl;omega
  ·have h1:=hT T hT'
   have h2:=hsz p ⟨id,rfl,hp⟩ (by rw[hT'];simp)
   rw[h2] at h1⊢
   rw[Nat.sub_mul]
   have:a*ie.size≤cp*ie.size:=Nat.mul_le_mul_right _ (by omega)
   omega
theorem zs_length {zero:List AV} (n:Nat):(zs zero n).length=n*zero.length:=by
 unfold zs
 split
 ·simp
 ·simp
theorem flat_get {zero:List AV} (hz:0<zero.length):∀(n j:Nat),j<n*zero.length→(List.replicate n zero).flatten[j]? =zero[j%zero.length]?
 |0,j,hj=>by omega
 |n+1,j,hj=>by
  rw[List.replicate_succ,List.flatten_cons]
  rcases Nat.lt_or_ge j zero.length with h1|h1
  ·rw[List.getElem?_append_left h1,Nat.mod_eq_of_lt h1]
  ·rw[List.getElem?_append_right h1,flat_get hz n _ (by rw[Nat.succ_mul] at hj;omega)]
   congr 1
   rw[Nat.mod_eq_sub_mod h1]
theorem zs_get {zero:List AV} {n j:Nat} (hj:j<n*zero.length):(zs zero n)[j]? =zero[j%zero.length]? :=by
 have hz:0<zero.length:=by
  rcases Nat.eq_zero_or_pos zero.length with e|e
  ·rw[e] at hj;omega
  ·exact e
 unfold zs
 split
 ·rename_i z
  have hj':j<n:=by simpa using hj
  simp[hj']
  simp[Nat.mod_one]
 ·exact flat_get hz n j hj
theorem made_rel {z:Array Value} (n:Nat):RelA μ (zs (z.toList.map ofC) n) (madeCells z (n*z.size)).toList:=by
 refine⟨by rw[zs_length];simp[madeCells],fun i u v hu hv=> ?_⟩
 have hi:i<n*z.size:=by
  have:=(List.getElem?_eq_some_iff.1 hu).1
  rw[zs_length] at this
  simpa using this
 have hz:0<z.size:=by
  rcases Nat.eq_zero_or_pos z.size with e|e
  ·rw[e] at hi;omega
  ·exact e
 rw[zs_get (by simpa using hi)] at hu
 have hm:i%z.size<z.size:=Nat.mod_lt _ hz
 simp[madeCells,hi] at hv
 simp[hm] at hu
 subst hu
 rw[←hv]
 simp only[getElem!_pos,hm]
 exact ofC_rel μ _
theorem make_any {t e:TypeId} {ie:TypeInfo} {z:Value} (ht:P.underlying t=some (.slice e)) (hi:P.info? e=some ie) (hz:ie.zero=some z) (hsz:z.cells.size=ie.size) (hb:0<ie.bytes)
  {l c:AV} {vl vc:Value} (hl:Rel μ l vl) (hc:Rel μ c vc) (R:Rep base w0 μ w h)
  (hk:match(generalizing:=false) l,c with
   | .int _ l, .int _ c=>0≤l∧l≤c∧ie.bytes*c≤140737488355328∧K (.sl (some h.next) 0 l.toNat (some c.toNat)) (h.new ⟨some e,ie.size,zs (z.cells.toList.map ofC) c.toNat⟩)
   |_,_=>False):∃v w',(Instr.makeSlice t vl vc).run P w= .ok v w'∧Fin base w0 μ K v w':=by
 cases hl with
 |int kl l=>
  cases hc with
  |int kc c=>
   obtain⟨h0,h1,h2,hk⟩:=hk
   have hcc:c≤140737488355328:=by
    have:(1:Int)*c≤ie.bytes*c:=Int.mul_le_mul_of_nonneg_right (by omega) (by omega)
    omega
   have hrun:=run_make (P:=P) w t e ie z ht hi hz kl kc l c h0 h1 (by omega) (by omega)
   refine⟨_,_,hrun,_,_,_,Mu.le_put (R.free _ (Nat.le_refl _)) _, ?_,R.alloc e ie.size (l:=zs (z.cells.toList.map ofC) c.toNat) (by rw[←hsz];exact made_rel _) ?_,hk⟩
   ·refine Rel.sl (p:=⟨⟨w.heap.size,0,none⟩,ie.size,some (c.toNat*ie.size)⟩) (by simp[Mu.put,size_madeCells]) (.inr rfl) (by omega) (fun x hx=>by simpa using hx.symm) (fun T hT=> ?_)
    simp at hT
    simpa using hT
   ·rw[size_madeCells]
    refine Nat.mul_le_mul_right _ ?_
    simp only[maxLen]
    omega
  |_=>exact hk.elim
 |_=>exact hk.elim
theorem box_any {e:TypeId} {x:AV} {vx:Value} (hx:Rel μ x vx) (R:Rep base w0 μ w h) (hh:x.held=true) (hk:K (.ptr (some (h.next,0))) (h.new ⟨some e,x.cells.length,x.cells⟩)):
  ∃v w',(Instr.box e vx).run P w= .ok v w'∧Fin base w0 μ K v w':=by
 have hc:=hx.cells hh
 refine⟨_,_,rfl,_,_,_,Mu.le_put (R.free _ (Nat.le_refl _)) _, ?_,R.alloc e x.cells.length hc ?_,hk⟩
 ·exact Rel.ptr (p:=⟨⟨w.heap.size,0,none⟩,x.cells.length,some vx.cells.size⟩) (by simp[Mu.put])
 ·have:=hc.1
  simp only[Array.length_toList] at this
  rw[this]
  simp only[maxLen]
  omega
theorem alloc_any {e:TypeId} {i:TypeInfo} {z:Value} (hi:P.info? e=some i) (hz:i.zero=some z) (R:Rep base w0 μ w h) (hk:K (.ptr (some (h.next,0))) (h.new ⟨some e,(z.cells.toList.map ofC).length,z.cells.toList.map ofC⟩)):
  ∃v w',(Instr.alloc e true (.tuple #[])).run P w= .ok v w'∧Fin base w0 μ K v w':=by
 have hc:=ofCs_rel μ z.cells.toList
 refine⟨.pointer (some ⟨w.heap.size,0,none⟩),w.alloc (.cells z.cells e), ?_,_,_,_,Mu.le_put (R.free _ (Nat.le_refl _)) _, ?_,R.alloc e (z.cells.toList.map ofC).length hc ?_,hk⟩
 ·simp[Instr.alloc,zeroValue,typeInfo,hi,hz,newVar,newRow]
 ·exact Rel.ptr (p:=⟨⟨w.heap.size,0,none⟩,(z.cells.toList.map ofC).length,some z.cells.size⟩) (by simp[Mu.put])
 ·simp only[maxLen,List.length_map,Array.length_toList]
  omega
end
end
section
section
variable {P:Program} {base:Nat} {w0 w:World} {μ:Mu} {h:H} {K:AV→H→Prop}
theorem fold_set (off:Nat):∀(us:List Value) (k:Nat) (cells:Array Value),off+k+us.length≤cells.size→
  ((us.zipIdx k).foldl (fun(cs:Array Value) (x:Value×Nat)=>cs.setIfInBounds (off+x.2) x.1) cells).toList=cells.toList.take (off+k)++us++cells.toList.drop (off+k+us.length)
 |[],k,cells,_=>by simp
 |u::us,k,cells,hl=>by
  simp only[List.length_cons] at hl
  rw[List.zipIdx_cons,List.foldl_cons,fold_set off us (k+1) _ (by simp;omega)]
  have e:=list_seg_step cells.toList (off+k) u us (by simp;omega)
  simp only[Array.toList_setIfInBounds,List.length_cons,←Nat.add_assoc] at e⊢
  rw[e]
def Parts (μ:Mu) (place:Nat→Option (Nat×Nat)):List (Nat×Value)→List (Nat×Nat×AV)→Prop
 |[],[]=>True
 |(i,v)::ps,(off,sz,u)::qs=>place i=some (off,sz)∧Rel μ u v∧Parts μ place ps qs
 |_,_=>False
theorem fill_build {place:Nat→Option (Nat×Nat)}:∀(ps:List (Nat×Value)) (qs:List (Nat×Nat×AV)) (cs:Array Value) (l l':List AV),Parts μ place ps qs→RelA μ l cs.toList→abuild l qs=some l'→
  ∃cs',Instr.fill place cs ps=some cs'∧RelA μ l' cs'.toList
 |[],[],cs,l,l',_,hr,hb=>by
  simp only[abuild] at hb
  injection hb with hb
  subst hb
  exact⟨cs,rfl,hr⟩
 |[],q::qs,cs,l,l',hp,_,_=>by simp[Parts] at hp
 |(i,v)::ps,[],cs,l,l',hp,_,_=>by simp[Parts] at hp
 |(i,v)::ps,(off,sz,u)::qs,cs,l,l',hp,hr,hb=>by
  obtain⟨h1,h2,h3⟩:=hp
  simp only[abuild] at hb
  split at hb
  ·rename_i hc
   obtain⟨c1,c2,c3⟩:=hc
   have hu:=h2.cells c1
   have hvs:v.cells.size=sz:=by have:=hu.1;simp at this;omega
   have hl:l.length=cs.size:=by have:=hr.1;simpa using this
   have hcs:(v.cells.zipIdx.foldl (fun(cs:Array Value) (x:Value×Nat)=>cs.setIfInBounds (off+x.2) x.1) cs).toList=cs.toList.take off++v.cells.toList++cs.toList.drop (off+v.cells.toList.length):=by
    rw[←Array.foldl_toList,Array.toList_zipIdx]
    have:=fold_set off v.cells.toList 0 cs (by simp;omega)
    simpa using this
   obtain⟨cs',e1,e2⟩:=fill_build ps qs (v.cells.zipIdx.foldl (fun(cs:Array Value) (x:Value×Nat)=>cs.setIfInBounds (off+x.2) x.1) cs) _ l' h3 (by rw[hcs];exact putAt_rel hr hu off) hb
   refine⟨cs', ?_,e2⟩
   have n1:¬(v.cells.size≠sz||off+v.cells.size>cs.size)=true:=by simp;omega
   rw[Instr.fill,h1]
   simp only[n1]
   exact e1
  ·cases hb
theorem buildSlice_any {t e:TypeId} {ie:TypeInfo} {z:Value} {n m:Nat} (ht:P.underlying t=some (.slice e)) (hi:P.info? e=some ie) (hz:ie.zero=some z) (hsz:z.cells.size=ie.size) (hsm:m*ie.size≤2^24) (hpos:m*ie.size≠0)
  {ρ:Env} {a:Act} (hρ:RelT n μ ρ a) (parts:Array (Nat×Operand)) (R:Rep base w0 μ w h)
  (hk:∃l,abuild (zs (z.cells.toList.map ofC) m) ((parts.toList.map (cop2 n)).map fun p=>(p.1*ie.size,ie.size,aev ρ p.2))=some l∧K (.sl (some h.next) 0 m (some m)) (h.new ⟨some e,ie.size,l⟩)):
  ∃v w',(Instr.buildSlice t m (parts.map fun(i,x)=>(i,a.eval x))).run P w= .ok v w'∧Fin base w0 μ K v w':=by
 obtain⟨l,hl,hk⟩:=hk
 have hp:∀ps:List (Nat×Operand),Parts μ (fun i=>some (i*ie.size,ie.size)) (ps.map fun(i,x)=>(i,a.eval x)) ((ps.map (cop2 n)).map fun p=>(p.1*ie.size,ie.size,aev ρ p.2)):=by
  intro ps
  induction ps with
  |nil=>exact trivial
  |cons p ps ih=>exact⟨rfl,cop_rel hρ p.2,ih⟩
 have hm:RelA μ (zs (z.cells.toList.map ofC) m) ((Array.range (m*ie.size)).map (z.cells[· %z.cells.size]!)).toList:=by
  rw[←hsz];exact made_rel m
 obtain⟨cs,h1,h2⟩:=fill_build (place:=fun i=>some (i*ie.size,ie.size)) _ _ _ _ _ (hp parts.toList) hm hl
 have hlen:l.length=cs.size:=by simpa using h2.1
 have hcs:cs.size=m*ie.size:=by
  have:∀(qs:List (Nat×Nat×AV)) (l l':List AV),abuild l qs=some l'→l'.length=l.length:=by
   intro qs
   induction qs with
   |nil=>intro l l' he;simp only[abuild] at he;injection he with he;rw[he]
   |cons q qs ih=>
    obtain⟨off,sz,u⟩:=q
    intro l l' he
    simp only[abuild] at he
    split at he
    ·rename_i hc
     rw[ih _ _ he,putAt_length (by rw[hc.2.1];exact hc.2.2)]
    ·cases he
  rw[←hlen,this _ _ _ hl,zs_length]
  simp[hsz]
 have hrun:=run_buildSlice (P:=P) w t e m (parts.map fun(i,x)=>(i,a.eval x)) cs ie z ht hi hz (by omega) hpos (by rw[Array.toList_map];exact h1)
 refine⟨_,_,hrun,_,_,_,Mu.le_put (R.free _ (Nat.le_refl _)) _, ?_,R.alloc e ie.size h2 ?_,hk⟩
 ·refine Rel.sl (p:=⟨⟨w.heap.size,0,none⟩,ie.size,some cs.size⟩) (by simp[Mu.put]) (.inr rfl) (Nat.le_refl _) (fun x hx=>by simpa using hx.symm) (fun T hT=> ?_)
  simp at hT
  simp;omega
 ·rw[hcs]
  refine Nat.mul_le_mul_right _ ?_
  have:m*1≤m*ie.size:=Nat.mul_le_mul_left _ (by
   rcases Nat.eq_zero_or_pos ie.size with e0|e0
   ·rw[e0] at hpos;simp at hpos
   ·exact e0)
  simp only[maxLen]
  omega
theorem append_main {t e ty:TypeId} {ie:TypeInfo} {z:Value} (ht:P.underlying t=some (.slice e)) (hi:P.info? e=some ie) (hz:ie.zero=some z) (hsz:z.cells.size=ie.size) (hpos:0<ie.size)
  (R:Rep base w0 μ w h):∀(ids:Option Nat) (offs n:Nat) (cs:Option Nat) (vs:Value),Rel μ (.sl ids offs n cs) vs→∀(j offx m:Nat) (c:Option Nat) (vx:Value),Rel μ (.sl (some j) offx m c) vx→m≠0→∀r,h.rows j=some r→offx+m*ie.size≤r.cells.length→
  (((r.cells.drop offx).take (m*ie.size)).all (·.one))=true→(n+m)*ie.bytes≤140737488355328→n+m≤140737488355328→∀(l:List AV) (xs:List Value),RelA μ l xs→w.ownsRow base e ie.size vs n xs→
  (ids=none∨∃i q p,ids=some i∧h.rows i=some q∧q.own≠none∧μ i=some p∧vs.ownBlock=some p.addr.block)→(ids=none→vs.ownBlock=none)→
  K (.sl (some h.next) 0 (n+m) none) ((h.del ids).new ⟨some e,ie.size,l++(r.cells.drop offx).take (m*ie.size)⟩)→
  ∃v w',(Builtin.append_ #[t,t] ty #[vs,vx]).run P w= .ok v w'∧Fin base w0 μ K v w':=by
 intro ids offs n cs vs hs j offx m c vx hx hm r hr hfit hone hby hnm l xs hlx hown hids hnil hk
 cases hx with
 | @sl _ _ _ _ px capx A hpx hA hlx' hcx hTx=>
  have hA':A=some (px.addr.add offx):=by
   rcases hA with hA|hA
   ·omega
   ·exact hA
  subst hA'
  obtain⟨px',hpx',hRx⟩:=R.row j r hr
  rw[hpx] at hpx'
  injection hpx' with hpx'
  subst hpx'
  obtain⟨news,hn1,hn2,hn3⟩:=row_cells hRx offx (m*ie.size) hfit
  obtain⟨v',w',hrun,hown',hgrow,_,hat⟩:=run_append_own_at (P:=P) w base t ty e ie z ie.size ie.bytes ht hi hz rfl rfl hsz hpos vs n xs hown (px.addr.add offx) m capx news hn1 hn2 (hn3.oneCell (by simpa using hone)) (by simp only[maxLen];omega) hby R.size
  refine⟨v',w',hrun, ?_⟩
  obtain⟨hlen',hrow'⟩:=hown'
  rcases hrow' with⟨_,h0⟩|⟨g,cap,cur,rfl,hbg,hg,hnc,hcm,hcs,htake⟩
  ·omega
  ·have hold:∀k,vs.ownBlock=some k→base≤k:=by
    intro k hk'
    rcases hids with e0|⟨i,q,p,rfl,hq,hqo,hp,hob⟩
    ·rw[hnil e0] at hk';cases hk'
    ·rw[hob] at hk'
     injection hk' with hk'
     obtain⟨p',hp',hR⟩:=R.row i q hq
     rw[hp] at hp'
     injection hp' with hp'
     subst hp'
     rw[←hk']
     exact hR.own_ge hqo
   have other:∀id r' p',(h.del ids).rows id=some r'→μ id=some p'→p'.addr.block<w.heap.size∧some p'.addr.block≠vs.ownBlock:=by
    intro id r' p' hr' hp'
    have hne:some id≠ids∧h.rows id=some r':=by
     simp only[H.del] at hr'
     split at hr'
     ·cases hr'
     ·rename_i hne;exact⟨hne,hr'⟩
    obtain⟨q',hq',hR'⟩:=R.row id r' hne.2
    rw[hp'] at hq'
    injection hq' with hq'
    subst hq'
    refine⟨hR'.block_lt R.size,fun e1=> ?_⟩
    rcases hids with e0|⟨i,q,p,rfl,hq,hqo,hp,hob⟩
    ·rw[hnil e0] at e1;cases e1
    ·rw[hob] at e1
     injection e1 with e1
     cases ho':r'.own with
     |none=>
      have h1:=hR'.ro_lt ho'
      have h2:=hold p.addr.block hob
      omega
     |some t'=>exact hne.1 (by rw[R.apart id i r' q p' p hne.2 hq (by rw[ho'];simp) hqo hp' hp e1])
   have hfree:=R.free h.next (Nat.le_refl _)
   have hgne:∀b,b<w.heap.size→some b≠vs.ownBlock→b≠g:=by
    intro b hb hbo e1
    subst e1
    rcases hat with e2|e2
    ·exact hbo (by rw[←e2];rfl)
    ·have:(Value.slice (some ⟨b,0,none⟩) (n+m) cap).ownBlock=some b:=rfl
     rw[this] at e2
     injection e2 with e2
     omega
   have hstep:=(R.del ids).step_new (w':=w') (r:=⟨some e,ie.size,l++(r.cells.drop offx).take (m*ie.size)⟩) (p:=⟨⟨g,0,none⟩,ie.size,some cur.size⟩)
    (R.below.grown hgrow R.size hold) (Nat.le_trans R.size hgrow.size) (fun id r' p' hr' hp'=>hgrow.block _ (other id r' p' hr' hp').1 (other id r' p' hr' hp').2)
    (fun id r' p' hr' _ hp'=>hgne _ (other id r' p' hr' hp').1 (other id r' p' hr' hp').2) ?_
   ·refine⟨_,_,_,Mu.le_put hfree _, ?_,hstep,hk⟩
    refine Rel.sl (p:=⟨⟨g,0,none⟩,ie.size,some cur.size⟩) (by simp[Mu.put]) (.inr rfl) hnc (fun x hx=>by cases hx) (fun T hT=> ?_)
    simp at hT
    simp;omega
   ·have hrel:RelA μ (l++(r.cells.drop offx).take (m*ie.size)) (xs++news):=hlx.append hn3
    refine⟨g,cur,rfl,hbg,rfl,hg,rfl,by rw[hcs];exact Nat.mul_le_mul_right _ hcm, ?_,fun j u hu=> ?_⟩
    ·rw[hrel.1,hlen',hcs]
     exact Nat.mul_le_mul_right _ hnc
    ·have hj:j<(xs++news).length:=by rw[←hrel.1];exact(List.getElem?_eq_some_iff.1 hu).1
     refine⟨(xs++news)[j], ?_,(hrel.2 j u _ hu (List.getElem?_eq_getElem hj)).mono (Mu.le_put (id:=h.next) hfree _)⟩
     have h1:(cur.toList.take ((n+m)*ie.size))[j]? =some (xs++news)[j]:=by rw[htake];exact List.getElem?_eq_getElem hj
     rw[List.getElem?_take] at h1
     split at h1
     ·simpa using h1
     ·cases h1
theorem append_zero {t e ty:TypeId} {ie:TypeInfo} (ht:P.underlying t=some (.slice e)) (hi:P.info? e=some ie) {j offx m:Nat} {c:Option Nat} {vx:Value} {A:Option Addr} (hx:Rel μ (.sl (some j) offx m c) vx) (hm:m≠0) (hby:(0+m)*ie.bytes≤140737488355328):
  (Builtin.append_ #[t,t] ty #[.slice A 0 0,vx]).run P w=(Builtin.append_ #[t,t] ty #[.slice none 0 0,vx]).run P w:=by
 have hgrow:¬Builtin.nextslicecap m 0*ie.bytes>2^48:=by
  have hmp:m>2*0:=by omega
  have:Builtin.nextslicecap m 0=m:=by
   unfold Builtin.nextslicecap
   rw[if_pos hmp]
  rw[this]
  simp only[Nat.zero_add] at hby
  omega
 cases hx with
 |sl hpx hAx hlx hcx hTx=>
  cases A with
  |none=>rfl
  |some a=>
   simp[Builtin.append_,run_underlying ht,szOf hi,typeInfo,hi,Builtin.lenOf,Builtin.firstCells,hm,hgrow,loadCells,loadCellsFrom]
theorem append_any {t e ty:TypeId} {ie:TypeInfo} {z:Value} (ht:P.underlying t=some (.slice e)) (hi:P.info? e=some ie) (hz:ie.zero=some z) (hsz:z.cells.size=ie.size) (hpos:0<ie.size)
  {s x:AV} {vs vx:Value} (hs:Rel μ s vs) (hx:Rel μ x vx) (R:Rep base w0 μ w h)
  (hk:match(generalizing:=false) s,x with
   | .sl ids offs n cs, .sl idx offx m _=>
    (m=0→K (.sl ids offs n cs) h)∧
    (m≠0→∃j r,idx=some j∧h.rows j=some r∧offx+m*ie.size≤r.cells.length∧(((r.cells.drop offx).take (m*ie.size)).all (·.one))=true∧(n+m)*ie.bytes≤140737488355328∧n+m≤140737488355328∧
     ((ids=none∧n=0∧K (.sl (some h.next) 0 m none) (h.new ⟨some e,ie.size,(r.cells.drop offx).take (m*ie.size)⟩))∨
      (∃i q,ids=some i∧h.rows i=some q∧q.own=some e∧q.esz=ie.size∧offs=0∧n*ie.size≤q.cells.length∧
      K (.sl (some h.next) 0 (n+m) none) ((h.del ids).new ⟨some e,ie.size,q.cells.take (n*ie.size)++(r.cells.drop offx).take (m*ie.size)⟩))))
   |_,_=>False):∃v w',(Builtin.append_ #[t,t] ty #[vs,vx]).run P w= .ok v w'∧Fin base w0 μ K v w':=by
 --nothing is appended
 have none_:∀(A:Option Addr) (n c:Nat) (B:Option Addr) (d:Nat),n≤c→(Builtin.append_ #[t,t] ty #[.slice A n c, .slice B 0 d]).run P w= .ok (.slice A n c) w:=by
  intro A n c B d hn
  cases A<;>cases B<;>simp[Builtin.append_,run_underlying ht,szOf hi,Builtin.lenOf,Builtin.firstCells,hn,loadCells,loadCellsFrom,storeCells]
 obtain⟨ids,offs,n,cs,rfl⟩:∃ids offs n cs,s= .sl ids offs n cs:=by cases s<;>first|exact hk.elim|exact⟨_,_,_,_,rfl⟩
 obtain⟨idx,offx,m,c,rfl⟩:∃idx offx m c,x= .sl idx offx m c:=by cases x<;>first|exact hk.elim|exact⟨_,_,_,_,rfl⟩
 ·by_cases hm:m=0
  ·subst hm
   have hk0:=hk.1 rfl
   have hs':=hs
   cases hs with
   |snil hc=>
    cases hx with
    |snil hc'=>exact⟨_,_,none_ _ _ _ _ _ (Nat.le_refl _),Fin.same R hs' hk0⟩
    |sl=>exact⟨_,_,none_ _ _ _ _ _ (Nat.le_refl _),Fin.same R hs' hk0⟩
   |sl hp hA hl hc hT=>
    cases hx with
    |snil hc'=>exact⟨_,_,none_ _ _ _ _ _ hl,Fin.same R hs' hk0⟩
    |sl=>exact⟨_,_,none_ _ _ _ _ _ hl,Fin.same R hs' hk0⟩
  ·obtain⟨j,r,rfl,hr,hfit,hone,hby,hnm,hk2⟩:=hk.2 hm
   clear hk
   rcases hk2 with⟨rfl,rfl,hk2⟩|⟨i,q,rfl,hq,hqo,hqe,rfl,hfq,hk2⟩
   ·have hs':=hs
    cases hs with
    | @snil A0 _ hc=>
     have hd:h.del none=h:=by unfold H.del;simp
     obtain⟨v',w',hrun,hfin⟩:=append_main (ty:=ty) ht hi hz hsz hpos R none 0 0 cs (.slice none 0 0) (Rel.snil hc) j offx m c _ hx hm r hr hfit hone hby hnm [] [] (RelA.nil μ) (World.ownsRow_nil w base e ie.size) (.inl rfl) (fun _=>rfl) (by simpa [hd] using hk2)
     exact⟨v',w',(append_zero ht hi hx hm hby).trans hrun,hfin⟩
   ·have hs':=hs
    cases hs with
    | @sl _ _ _ _ p cap A hp hA hl hc hT=>
     obtain⟨p',hp',hR⟩:=R.row i q hq
     rw[hp] at hp'
     injection hp' with hp'
     subst hp'
     have hR0:=hR
     unfold RowRep at hR
     simp only[hqo] at hR
     obtain⟨g,cur,e1,e2,e3,e4,e5,e6,e7,e8⟩:=hR
     have hT':=hT _ e5
     rw[e3,hqe] at hT'
     simp only[Nat.zero_add] at hT'
     have hcm:cap≤maxLen:=by
      rw[hqe,←hT'] at e6
      exact Nat.le_of_mul_le_mul_right e6 hpos
     have hrel:RelA μ (q.cells.take (n*ie.size)) (cur.toList.take (n*ie.size)):=by
      refine⟨by simp;omega,fun k u v hu hv=> ?_⟩
      rw[List.getElem?_take] at hu hv
      split at hu
      ·rename_i hkn
       rw[if_pos hkn] at hv
       obtain⟨v',hv',hr'⟩:=e8 k u hu
       have:cur.toList[k]? =some v':=by simpa using hv'
       rw[this] at hv
       injection hv with hv
       subst hv
       exact hr'
      ·cases hu
     rcases Nat.eq_zero_or_pos cap with hc0|hc0
     ·--no room and no cells:a nil slice or one of no cells
      have hn0:n=0:=by omega
      subst hn0
      subst hc0
      have hcur:cur.size=0:=by omega
      have hrl:r.cells.length≠0:=by
       have:1*1≤m*ie.size:=Nat.mul_le_mul (by omega) hpos
       omega
      have hji:j≠i:=by
       rintro rfl
       rw[hr] at hq
       injection hq with hq
       subst hq
       omega
      have hrj:(h.del (some i)).rows j=some r:=by
       unfold H.del
       simp[hji,hr]
      obtain⟨v',w',hrun,hfin⟩:=append_main (ty:=ty) ht hi hz hsz hpos (R.del (some i)) (K:=K) none 0 0 none (.slice none 0 0) (Rel.snil (fun x hx=>by cases hx)) j offx m c _ hx hm r hrj hfit hone hby hnm [] [] (RelA.nil μ) (World.ownsRow_nil w base e ie.size) (.inl rfl) (fun _=>rfl)
       (by
        have hd:(h.del (some i)).del none=h.del (some i):=by unfold H.del;simp
        rw[hd]
        simpa [H.del] using hk2)
      exact⟨v',w',(append_zero ht hi hx hm hby).trans hrun,hfin⟩
     ·have hA':A=some (p.addr.add 0):=by
       rcases hA with hA|hA
       ·omega
       ·exact hA
      subst hA'
      rw[e1,add_plain] at hs'⊢
      have hown:w.ownsRow base e ie.size (.slice (some ⟨g,0,none⟩) n cap) n (cur.toList.take (n*ie.size)):=by
       refine⟨by simp;have:n*ie.size≤cap*ie.size:=Nat.mul_le_mul_right _ hl;omega, .inr ⟨g,cap,cur,rfl,e2,e4,hl,hcm,hT'.symm,rfl⟩⟩
      exact append_main ht hi hz hsz hpos R (some i) 0 n cs _ hs' j offx m c _ hx hm r hr hfit hone hby hnm _ _ hrel hown (.inr ⟨i,q,p,rfl,hq,by rw[hqo];simp,hp,by rw[e1];rfl⟩) (fun h=>by cases h) hk2
end
end
section
section
variable {P:Program} {base:Nat} {w0 w:World} {μ:Mu} {h:H} {K:AV→H→Prop}
theorem copy_any {t t' ty e:TypeId} {ie:TypeInfo} (ht:P.underlying t=some (.slice e)) (hi:P.info? e=some ie)
  {d s:AV} {vd vs:Value} (hd:Rel μ d vd) (hs:Rel μ s vs) (R:Rep base w0 μ w h)
  (hk:match(generalizing:=false) d,s with
   | .sl idd offd n _, .sl ids offs m _=>
    (min m n=0→K (.int .i64 0) h)∧
    (min m n≠0→∃i q j r,idd=some i∧h.rows i=some q∧q.own≠none∧ids=some j∧h.rows j=some r∧offs+min m n*ie.size≤r.cells.length∧offd+min m n*ie.size≤q.cells.length∧
     (((r.cells.drop offs).take (min m n*ie.size)).all (·.one))=true∧K (.int .i64 (min m n)) (h.set i {q with cells:=putAt q.cells offd ((r.cells.drop offs).take (min m n*ie.size))}))
   |_,_=>False):∃v w',(Builtin.copy_ #[t,t'] ty #[vd,vs]).run P w= .ok v w'∧Fin base w0 μ K v w':=by
 obtain⟨idd,offd,n,cd,rfl⟩:∃ids offs n cs,d= .sl ids offs n cs:=by cases d<;>first|exact hk.elim|exact⟨_,_,_,_,rfl⟩
 obtain⟨ids,offs,m,cs,rfl⟩:∃idx offx m c,s= .sl idx offx m c:=by cases s<;>first|exact hk.elim|exact⟨_,_,_,_,rfl⟩
 by_cases h0:min m n=0
 ·have hk0:=hk.1 h0
  clear hk
  have hn0:Nat.min m n=0:=h0
  have run0:∀(A:Option Addr) (c:Nat) (B:Option Addr) (c':Nat),(Builtin.copy_ #[t,t'] ty #[.slice A n c, .slice B m c']).run P w= .ok (goInt 0) w:=by
   intro A c B c'
   cases A<;>cases B<;>simp[Builtin.copy_,run_underlying ht,szOf hi,Builtin.lenOf,Builtin.firstCells,hn0,loadCells,loadCellsFrom,storeCells]
  cases hd with
  |snil _=>
   cases hs with
   |snil _=>exact⟨_,_,run0 _ _ _ _,Fin.same R (.int _ _) hk0⟩
   |sl=>exact⟨_,_,run0 _ _ _ _,Fin.same R (.int _ _) hk0⟩
  |sl=>
   cases hs with
   |snil _=>exact⟨_,_,run0 _ _ _ _,Fin.same R (.int _ _) hk0⟩
   |sl=>exact⟨_,_,run0 _ _ _ _,Fin.same R (.int _ _) hk0⟩
 ·obtain⟨i,q,j,r,rfl,hq,hqo,rfl,hr,hfr,hfq,hone,hk2⟩:=hk.2 h0
  clear hk
  cases hd with
  | @sl _ _ _ _ pd capd A hpd hA hld hcd hTd=>
   cases hs with
   | @sl _ _ _ _ ps caps B hps hB hls hcs hTs=>
    have hA':A=some (pd.addr.add offd):=by
     rcases hA with hA|hA
     ·omega
     ·exact hA
    have hB':B=some (ps.addr.add offs):=by
     rcases hB with hB|hB
     ·omega
     ·exact hB
    subst hA'
    subst hB'
    obtain⟨ps',hps',hRs⟩:=R.row j r hr
    rw[hps] at hps'
    injection hps' with hps'
    subst hps'
    obtain⟨news,hn1,hn2,hn3⟩:=row_cells hRs offs (min m n*ie.size) hfr
    obtain⟨w',hw,R'⟩:=write_cells (P:=P) R hq hqo hpd hn3 (hn3.oneCell (by simpa using hone)) (by rw[hn3.1,hn1];exact hfq)
    have hload:=run_loadCells_list (P:=P) w _ news hn2
    rw[hn1] at hload
    refine⟨_,w', ?_,⟨μ,_,_,μ.le_refl, .int _ _,R',hk2⟩⟩
    have hmn:Nat.min m n=min m n:=rfl
    simp[Builtin.copy_,run_underlying ht,szOf hi,Builtin.lenOf,Builtin.firstCells,hmn,hload,hw,goInt]
    omega
theorem mnx_any {mx:Bool} {k:IntKind}:∀{a:Int} {ys:List AV} {vs:List Value} {Kv:AV→Prop},RelA μ ys vs→mnxs mx k a ys Kv→∃n:Int,(vs.foldlM (if mx then Builtin.max2 else Builtin.min2) (Value.int k a)).run P w= .ok (.int k n) w∧Kv (.int k n):=by
 intro a ys
 induction ys generalizing a with
 |nil=>
  intro vs Kv hr hk
  rw[hr.inv_nil]
  exact⟨a,rfl,hk⟩
 |cons y ys ih=>
  intro vs Kv hr hk
  obtain⟨v,vs',rfl,hy,hr'⟩:=hr.inv
  cases hy with
  |int k' b=>
   simp only[mnxs] at hk
   obtain⟨rfl,hk⟩:=hk
   obtain⟨n,hn,hkn⟩:=ih hr' hk
   refine⟨n, ?_,hkn⟩
   rw[List.foldlM_cons,Sem.run_bind]
   have:((if mx then Builtin.max2 else Builtin.min2) (Value.int k a) (Value.int k b)).run P w= .ok (.int k (if mx then max a b else min a b)) w:=by
    cases mx
    ·simp only[Builtin.min2,Bool.false_eq_true,if_false,Sem.run_pure]
     congr 2
     omega
    ·simp only[Builtin.max2,if_true,Sem.run_pure]
     congr 2
     omega
   rw[this,Result.andThen_ok]
   exact hn
  |_=>simp[mnxs] at hk
theorem upon_inv {o:Oper} {a:Act} {f:FuncId} {vs:Array Value} {next:Act→World→Prop} {Q:Exit→Act→World→Prop} {Rr:Value→World→Prop} (hi:Inv P f vs w Rr) (hn:∀v w',Rr v w'→next (a.put o.dst v) w'):
  o.upon P a next Q ((callFunc f vs).run P w):=by
 rcases hi with⟨hr,hc⟩|⟨v,hr,hv⟩
 ·rw[hr,Oper.upon_enter]
  refine hc.mono ?_
  rintro e w' ⟨v,rfl,hv⟩
  exact hn v w' hv
 ·rw[hr,Oper.upon_value]
  exact hn v w hv
theorem op_sound {n:Nat} {ρ:Env} {a:Act} {o:Oper} {next:Act→World→Prop} {Q:Exit→Act→World→Prop} (hx:aexec P (compileOp P n o.op) ρ h K) (hρ:RelT n μ ρ a) (R:Rep base w0 μ w h)
  (hn:∀rv w',Fin base w0 μ K rv w'→next (a.put o.dst rv) w'):o.wp P a w next Q:=by
 --an operation that answers a value
 have val:∀{s:Sem Value},(∃v w',s.run P w= .ok v w'∧Fin base w0 μ K v w')→o.upon P a next Q ((do pure (Next.value (←s)):Sem Next).run P w):=by
  rintro s ⟨v,w',hr,hf⟩
  rw[Sem.run_bind,hr,Result.andThen_ok,Sem.run_pure,Oper.upon_value]
  exact hn v w' hf
 have val1:∀{s:Sem Value},(∃v,s.run P w= .ok v w∧Fin base w0 μ K v w)→o.upon P a next Q ((do pure (Next.value (←s)):Sem Next).run P w):=by
  rintro s ⟨v,hr,hf⟩
  exact val ⟨v,w,hr,hf⟩
 have unit_:∀{s:Sem Unit},(∃w',s.run P w= .ok () w'∧Fin base w0 μ K undef w')→o.upon P a next Q ((do s;pure Next.skip:Sem Next).run P w):=by
  rintro s ⟨w',hr,hf⟩
  rw[Sem.run_bind,hr,Result.andThen_ok,Sem.run_pure,Oper.upon_skip]
  exact hn undef w' hf
 have mv:∀x:Operand,K (aev ρ (cop n x)) h→o.upon P a next Q ((pure (Next.value (a.eval x)):Sem Next).run P w):=by
  intro x hk
  rw[Sem.run_pure,Oper.upon_value]
  exact hn _ w (Fin.same R (cop_rel hρ x) hk)
 unfold Oper.wp execOp
 cases ho:o.op<;>rw[ho] at hx<;>simp only[compileOp] at hx<;>simp only[]
 case move x=>exact mv x hx
 case assign x=>exact mv x hx
 case pick c x y=>
  have hc:=cop_rel hρ c
  simp only[aexec] at hx
  split at hx
  ·rename_i t heq
   rw[heq] at hc
   cases hc':a.eval c<;>rw[hc'] at hc<;>cases hc
   rw[Sem.run_bind]
   simp only[asBool,Sem.run_pure,Result.andThen_ok,Oper.upon_value]
   refine hn _ w (Fin.same R ?_ hx)
   split
   ·exact cop_rel hρ x
   ·exact cop_rel hρ y
  ·exact hx.elim
 case binOp op t x y t'=>
  have h1:=cop_rel hρ x
  have h2:=cop_rel hρ y
  have fin:∀{Kv:AV→Prop},(∀v,Kv v→K v h)→(∃v,(binOp op t (a.eval x) (a.eval y)).run P w= .ok v w∧∃u,Kv u∧∀μ:Mu,Rel μ u v)→(eqGuard op t x y (a.eval x) (a.eval y)).run P w= .ok () w→
    o.upon P a next Q ((do pure (Next.value (←(do eqGuard op t x y (a.eval x) (a.eval y);binOp op t (a.eval x) (a.eval y)))):Sem Next).run P w):=by
   rintro Kv hk ⟨v,hr,u,hu,hrel⟩ hg
   refine val ⟨v,w, ?_,Fin.same R (hrel μ) (hk u hu)⟩
   rw[Sem.run_bind,hg,Result.andThen_ok]
   exact hr
  have ints:aexec P (.bin op (cop n x) (cop n y)) ρ h K→o.upon P a next Q ((do pure (Next.value (←(do eqGuard op t x y (a.eval x) (a.eval y);binOp op t (a.eval x) (a.eval y)))):Sem Next).run P w):=by
   intro hx
   simp only[aexec] at hx
   have hx0:=hx
   refine fin (fun v hv=>hv) (bin_any h1 h2 hx0) ?_
   unfold abinV at hx
   split at hx
   ·rename_i e1 e2
    rw[e1] at h1
    rw[e2] at h2
    cases hv1:a.eval x<;>rw[hv1] at h1<;>cases h1
    cases hv2:a.eval y<;>rw[hv2] at h2<;>cases h2
    exact guard_int
   ·exact hx.elim
  have bools:∀neq:Bool,P.underlying t=some .bool→op=(if neq then .neq else .eql)→aexec P (.beq neq (cop n x) (cop n y)) ρ h K→o.upon P a next Q ((do pure (Next.value (←(do eqGuard op t x y (a.eval x) (a.eval y);binOp op t (a.eval x) (a.eval y)))):Sem Next).run P w):=by
   intro neq ht hop hx
   simp only[aexec] at hx
   split at hx
   ·rename_i b1 b2 e1 e2
    rw[e1] at h1
    rw[e2] at h2
    cases hv1:a.eval x<;>rw[hv1] at h1<;>cases h1
    cases hv2:a.eval y<;>rw[hv2] at h2<;>cases h2
    rw[hv1,hv2] at fin
    refine fin (Kv:=fun v=>K v h) (fun v hv=>hv) ⟨.bool (if neq then b1 !=b2 else b1==b2), ?_,_,hx,fun μ=> .bool _⟩ guard_bool
    subst hop
    cases neq<;>cases b1<;>cases b2<;>simp[binOp,eq_bool ht]
   ·exact hx.elim
  have ptrs:∀(neq:Bool) (e:TypeId),P.underlying t=some (.pointer e)→op=(if neq then .neq else .eql)→aexec P (.peq neq (cop n x) (cop n y)) ρ h K→o.upon P a next Q ((do pure (Next.value (←(do eqGuard op t x y (a.eval x) (a.eval y);binOp op t (a.eval x) (a.eval y)))):Sem Next).run P w):=by
   intro neq e ht hop hx
   have eqn:∀b:Option Addr,(Op.equal t (.pointer none) (.pointer b)).run P w= .ok b.isNone w:=by
    intro b
    have hh:∀d,(Op.equalIn (d+1) t (.pointer none) (.pointer b)).run P w= .ok b.isNone w:=fun d=>by simp[Op.equalIn,run_underlying ht]
    exact hh 9999
   have eqs:∀b:Addr,(Op.equal t (.pointer (some b)) (.pointer none)).run P w= .ok false w:=by
    intro b
    have hh:∀d,(Op.equalIn (d+1) t (.pointer (some b)) (.pointer none)).run P w= .ok false w:=fun d=>by simp[Op.equalIn,run_underlying ht]
    exact hh 9999
   have gd:∀(p q:Option Addr),(eqGuard op t x y (.pointer p) (.pointer q)).run P w= .ok () w:=by
    intro p q
    unfold eqGuard
    cases op<;>rfl
   simp only[aexec] at hx
   split at hx
   ·rename_i b e1 e2
    rw[e1] at h1
    rw[e2] at h2
    cases hv1:a.eval x<;>rw[hv1] at h1<;>cases h1
    cases hv2:a.eval y<;>rw[hv2] at h2
    all_goals first|(cases h2;done)|skip
    rename_i q
    rw[hv1,hv2] at fin
    have hq:q.isNone=b.isNone:=by cases h2<;>rfl
    refine fin (Kv:=fun v=>K v h) (fun v hv=>hv) ⟨.bool (neq !=b.isNone), ?_,_,hx,fun μ=> .bool _⟩ (gd _ _)
    subst hop
    cases neq<;>simp[binOp,eqn,hq]
   ·rename_i e1 e2
    rw[e1] at h1
    rw[e2] at h2
    cases hv1:a.eval x<;>rw[hv1] at h1<;>cases h1
    cases hv2:a.eval y<;>rw[hv2] at h2<;>cases h2
    rw[hv1,hv2] at fin
    refine fin (Kv:=fun v=>K v h) (fun v hv=>hv) ⟨.bool neq, ?_,_,hx,fun μ=> .bool _⟩ (gd _ _)
    subst hop
    cases neq<;>simp[binOp,eqs]
   ·exact hx.elim
  have strs:∀neq:Bool,P.underlying t=some .string→op=(if neq then .neq else .eql)→aexec P (.seq neq (cop n x) (cop n y)) ρ h K→o.upon P a next Q ((do pure (Next.value (←(do eqGuard op t x y (a.eval x) (a.eval y);binOp op t (a.eval x) (a.eval y)))):Sem Next).run P w):=by
   intro neq ht hop hx
   simp only[aexec] at hx
   split at hx
   ·rename_i b1 b2 e1 e2
    rw[e1] at h1
    rw[e2] at h2
    cases hv1:a.eval x<;>rw[hv1] at h1<;>cases h1
    cases hv2:a.eval y<;>rw[hv2] at h2<;>cases h2
    rw[hv1,hv2] at fin
    refine fin (Kv:=fun v=>K v h) (fun v hv=>hv) ⟨.bool (neq !=(b1==b2)), ?_,_,hx,fun μ=> .bool _⟩ guard_str
    subst hop
    cases neq<;>simp[binOp,Op.stringOp,beq_toListBytes]
   ·exact hx.elim
  have cats:op= .add→aexec P (.cat (cop n x) (cop n y)) ρ h K→o.upon P a next Q ((do pure (Next.value (←(do eqGuard op t x y (a.eval x) (a.eval y);binOp op t (a.eval x) (a.eval y)))):Sem Next).run P w):=by
   intro hop hx
   simp only[aexec] at hx
   split at hx
   ·rename_i b1 b2 e1 e2
    rw[e1] at h1
    rw[e2] at h2
    cases hv1:a.eval x<;>rw[hv1] at h1<;>cases h1
    cases hv2:a.eval y<;>rw[hv2] at h2<;>cases h2
    rw[hv1,hv2] at fin
    refine fin (Kv:=fun v=>K v h) (fun v hv=>hv) ⟨.string (b1++b2), ?_,_,hx.2,fun μ=> .str _⟩ guard_str
    subst hop
    have hmax:IntKind.i64.max=9223372036854775807:=by decide
    have:¬(((b1.size+b2.size:Nat):Int)>IntKind.i64.max):=by rw[hmax];omega
    simp only[binOp,Op.stringOp]
    rw[if_neg this]
    rfl
   ·exact hx.elim
  have aggs:∀(neq:Bool) (fs:Array Field),P.underlying t=some (.struct fs)→aeqOk P t=true→op=(if neq then .neq else .eql)→aexec P (.aeq neq fs.size (cop n x) (cop n y)) ρ h K→o.upon P a next Q ((do pure (Next.value (←(do eqGuard op t x y (a.eval x) (a.eval y);binOp op t (a.eval x) (a.eval y)))):Sem Next).run P w):=by
   intro neq fs ht hok hop hx
   simp only[aexec] at hx
   split at hx
   ·rename_i l m e1 e2
    rw[e1] at h1
    rw[e2] at h2
    cases hv1:a.eval x<;>rw[hv1] at h1<;>cases h1
    rename_i c1 c2
    cases hv2:a.eval y<;>rw[hv2] at h2<;>cases h2
    rename_i c3 c4
    rw[hv1,hv2] at fin
    obtain⟨hl,hm,b,hb,hk⟩:=hx
    obtain⟨r1,r2⟩:=aeq_ok (P:=P) (w:=w) ht hok ⟨by simpa using c1,fun i u v hu hv=>c2 i u v hu (by simpa using hv)⟩ ⟨by simpa using c3,fun i u v hu hv=>c4 i u v hu (by simpa using hv)⟩ hl hm hb
    refine fin (Kv:=fun v=>K v h) (fun v hv=>hv) ⟨.bool (neq !=b), ?_,_,hk,fun μ=> .bool _⟩ (run_eqGuard_agg w op t x y _ _ r2)
    subst hop
    cases neq
    ·simp only[Bool.false_eq_true,if_false,run_eql_struct,r1,Result.andThen_ok,Bool.false_bne]
    ·simp only[if_true,run_neq_struct,r1,Result.andThen_ok,Bool.true_bne]
   ·exact hx.elim
  split at hx
  ·rename_i hu;exact bools false hu rfl hx
  ·rename_i hu;exact bools true hu rfl hx
  ·rename_i hu;exact ptrs false _ hu rfl hx
  ·rename_i hu;exact ptrs true _ hu rfl hx
  ·exact cats rfl hx
  ·rename_i hu;exact strs false hu rfl hx
  ·rename_i hu;exact strs true hu rfl hx
  ·rename_i hu
   split at hx
   ·rename_i hok;exact aggs false _ hu hok rfl hx
   ·exact hx.elim
  ·rename_i hu
   split at hx
   ·rename_i hok;exact aggs true _ hu hok rfl hx
   ·exact hx.elim
  ·exact ints hx
  ·exact hx.elim
 case unOp op t x=>
  exact val1 (un_any (cop_rel hρ x) R hx)
 case convert s d x=>
  split at hx
  ·rename_i k' k hs hd
   simp only[aexec] at hx
   have hr:=cop_rel hρ x
   split at hx
   ·rename_i e1
    rw[e1] at hr
    cases hv1:a.eval x<;>rw[hv1] at hr<;>cases hr
    refine val1 ⟨_, ?_,Fin.same R (.int _ _) hx⟩
    simp[convert,run_underlying hs,run_underlying hd,Conv.intToInt]
   ·exact hx.elim
  ·rename_i e hs hd
   split at hx
   ·rename_i he
    simp only[aexec] at hx
    exact val1 (bts_any hs he hd (cop_rel hρ x) R hx)
   ·exact hx.elim
  ·exact hx.elim
 case indexAddr t x i=>
  split at hx
  ·split at hx
   ·rename_i hu _ ie hie;exact val1 (index_slice hu hie (cop_rel hρ x) (cop_rel hρ i) R hx)
   ·exact hx.elim
  ·split at hx
   ·rename_i hu _ ie hie;exact val1 (index_array hu hie (cop_rel hρ x) (cop_rel hρ i) R hx)
   ·exact hx.elim
  ·exact hx.elim
 case index t x i=>
  split at hx
  ·rename_i hu
   have h1:=cop_rel hρ x
   have h2:=cop_rel hρ i
   simp only[aexec] at hx
   split at hx
   ·rename_i s k m e1 e2
    rw[e1] at h1
    rw[e2] at h2
    cases hv1:a.eval x<;>rw[hv1] at h1<;>cases h1
    cases hv2:a.eval i<;>rw[hv2] at h2<;>cases h2
    obtain⟨h0,b,hb,hk⟩:=hx
    refine val1 ⟨_, ?_,Fin.same R (.int _ _) hk⟩
    simp[Instr.index,asIntOf,run_underlying hu,h0,hb]
   ·exact hx.elim
  ·split at hx
   ·rename_i hu _ _ ie s hie hs;exact val1 (index_value hu hie hs (cop_rel hρ x) (cop_rel hρ i) R hx)
   ·exact hx.elim
  ·exact hx.elim
 case fieldAddr t x i=>
  split at hx
  ·split at hx
   ·split at hx
    ·split at hx
     ·exact hx.elim
     ·rename_i hu _ f hf _ it hit hz;exact val1 (field_addr hu hf hit hz (cop_rel hρ x) R hx)
    ·exact hx.elim
   ·exact hx.elim
  ·exact hx.elim
 case load t x=>
  split at hx
  ·rename_i s hs;exact val1 (load_any hs (cop_rel hρ x) R hx)
  ·exact hx.elim
 case store t x v=>
  split at hx
  ·rename_i i hi;exact unit_ (store_any hi (cop_rel hρ x) (cop_rel hρ v) R hx)
  ·exact hx.elim
 case nilCheck x=>
  simp only[aexec] at hx
  have hr:=cop_rel hρ x
  split at hx
  ·rename_i e1
   rw[e1] at hr
   cases hv1:a.eval x<;>rw[hv1] at hr<;>cases hr
   rw[Sem.run_pure,Oper.upon_value]
   rename_i hp
   exact hn _ w (Fin.same R (.ptr hp) hx)
  ·exact hx.elim
 case field t x i=>
  split at hx
  ·split at hx
   ·split at hx
    ·rename_i hu _ f hf _ s hs;exact val1 (field_of hu hf hs (cop_rel hρ x) R hx)
    ·exact hx.elim
   ·exact hx.elim
  ·exact hx.elim
 case makeSlice t l c=>
  split at hx
  ·split at hx
   ·split at hx
    ·split at hx
     ·rename_i hu _ ie hie _ z hz hc;exact val (make_any hu hie hz hc.1 hc.2.2 (cop_rel hρ l) (cop_rel hρ c) R hx)
     ·exact hx.elim
    ·exact hx.elim
   ·exact hx.elim
  ·exact hx.elim
 case buildSlice t m parts=>
  split at hx
  ·split at hx
   ·split at hx
    ·split at hx
     ·rename_i hu _ ie hie _ z hz hc;exact val (buildSlice_any hu hie hz hc.1 hc.2.1 hc.2.2 hρ parts R hx)
     ·exact hx.elim
    ·exact hx.elim
   ·exact hx.elim
  ·exact hx.elim
 case box e x=>
  simp only[aexec] at hx
  exact val (box_any (cop_rel hρ x) R hx.1 hx.2)
 case alloc e=>
  split at hx
  ·split at hx
   ·rename_i i hi _ z hz;exact val (alloc_any hi hz R hx)
   ·exact hx.elim
  ·exact hx.elim
 case extract x i=>
  simp only[aexec] at hx
  have hr:=cop_rel hρ x
  split at hx
  ·rename_i l e1
   rw[e1] at hr
   cases hv1:a.eval x<;>rw[hv1] at hr<;>cases hr
   rename_i vs h1 h2
   obtain⟨u,hu,hk⟩:=hx
   obtain⟨v,hv,hrel⟩:=rel_get h1 h2 hu
   refine val1 ⟨v, ?_,Fin.same R hrel hk⟩
   simp[Instr.extract,hv]
  ·exact hx.elim
 case makeFunc fn first caps=>
  cases fn with
  |func f=>
   simp only[aexec] at hx
   have c1:=cops_rel hρ first.toList
   have c2:=cops_rel hρ caps.toList
   refine val1 ⟨_,rfl,Fin.same R ?_ hx⟩
   exact .fn (vs:=first.map a.eval) (ws:=caps.map a.eval) (by simp) (fun i u v hu hv=>c1.2 i u v hu (by rw[←Array.toList_map];simpa using hv)) (by simp) (fun i u v hu hv=>c2.2 i u v hu (by rw[←Array.toList_map];simpa using hv))
  |_=>exact hx.elim
 case slice t x lo hi mx=>
  cases mx with
  |some m=>exact hx.elim
  |none=>
   simp only at hx
   split at hx
   ·split at hx
    ·rename_i hu _ ie hie
     have hr:=cop_rel hρ x
     simp only[aexec] at hx
     split at hx
     ·rename_i id off len cap e1
      rw[e1] at hr
      have bnd:∀(y:Option Operand) (d:Nat) (Kp:Nat→Prop),boundOf ρ d (y.map (cop n)) Kp→∃m,(match y.map a.eval with|none=>m=d|some v=>∃k i,v= .int k i∧0≤i∧m=i.toNat)∧Kp m:=by
       intro y d Kp hb
       cases y with
       |none=>exact⟨d,rfl,hb⟩
       |some y=>
        simp only[Option.map_some,boundOf] at hb
        split at hb
        ·rename_i k i e2
         have:=cop_rel hρ y
         rw[e2] at this
         cases hv1:a.eval y<;>rw[hv1] at this<;>cases this
         exact⟨i.toNat,⟨k,i,by simpa using hv1,hb.1,rfl⟩,hb.2⟩
        ·exact hb.elim
      obtain⟨b,hb,hx⟩:=bnd hi len _ hx
      obtain⟨c,hc,hx⟩:=bnd lo 0 _ hx
      exact val1 (slice_any hu hie hr R rfl hb hc hx.1 hx.2.1 hx.2.2.2 hx.2.2.1)
     ·exact hx.elim
    ·exact hx.elim
   ·exact hx.elim
 case build t parts=>
  have fin:∀(cells:Array Value) (l:List AV),P.built t (parts.map fun(i,x)=>(i,a.eval x)).toList=some cells→RelA μ l cells.toList→K (.agg l) h→
    o.upon P a next Q ((do pure (Next.value (←Instr.build t (parts.map fun(i,x)=>(i,a.eval x)))):Sem Next).run P w):=by
   intro cells l hb hr hk
   exact val1 ⟨_,run_build w t _ cells hb,Fin.same R hr.agg hk⟩
  split at hx
  ·rename_i hit hu
   split at hx
   ·rename_i z ie hz hie
    simp only[aexec] at hx
    obtain⟨l,hl,hk⟩:=hx
    have hp:∀ps:List (Nat×Operand),Parts μ (fun i=>some (i*ie.size,ie.size)) (ps.map fun(i,x)=>(i,a.eval x)) ((ps.map fun p=>(p.1*ie.size,ie.size,cop n p.2)).map fun p=>(p.1,p.2.1,aev ρ p.2.2)):=by
     intro ps
     induction ps with
     |nil=>exact trivial
     |cons p ps ih=>exact⟨rfl,cop_rel hρ p.2,ih⟩
    obtain⟨cs,h1,h2⟩:=fill_build (place:=fun i=>some (i*ie.size,ie.size)) _ _ _ _ _ (hp parts.toList) (ofCs_rel μ z.cells.toList) hl
    refine fin cs l ?_ h2 hk
    unfold Program.built
    rw[hit,hu]
    simp only[hz,hie,Array.toList_map]
    exact h1
   ·exact hx.elim
  ·rename_i hit hu
   split at hx
   ·rename_i z places hz hpl
    split at hx
    ·rename_i l0 hl0
     simp only[aexec] at hx
     obtain⟨l,hl,hk⟩:=hx
     have hp:∀(ps:List (Nat×Operand)) (l0:List (Nat×Nat×AO)),ps.mapM (fun p=>(places[p.1]?).map fun q=>(q.1,q.2,cop n p.2))=some l0→Parts μ (places.toArray[·]?) (ps.map fun(i,x)=>(i,a.eval x)) (l0.map fun p=>(p.1,p.2.1,aev ρ p.2.2)):=by
      intro ps
      induction ps with
      |nil=>intro l0 h0;simp at h0;subst h0;exact trivial
      |cons p ps ih=>
       intro l0 h0
       simp only[List.mapM_cons,Option.bind_eq_bind,Option.pure_def] at h0
       cases hq:places[p.1]? with
       |none=>simp[hq] at h0
       |some q=>
        cases hr:ps.mapM (fun p=>(places[p.1]?).map fun q=>(q.1,q.2,cop n p.2)) with
        |none=>simp[hq,hr] at h0
        |some rest=>
         simp[hq,hr] at h0
         subst h0
         exact⟨by simpa using hq,cop_rel hρ p.2,ih rest hr⟩
     obtain⟨cs,h1,h2⟩:=fill_build (place:=(places.toArray[·]?)) _ _ _ _ _ (hp parts.toList l0 hl0) (ofCs_rel μ z.cells.toList) hl
     refine fin cs l ?_ h2 hk
     unfold Program.built
     rw[hit,hu]
     simp only[hz,hpl,Array.toList_map]
     exact h1
    ·exact hx.elim
   ·exact hx.elim
  ·exact hx.elim
 case call c=>
  have blt:∀(b:Builtin) (s:Sem Value),c.callee= .builtin b→(∀cs,builtin b c.argTypes o.type cs (c.args.map a.eval)=(do pure (Next.value (←s)):Sem Next))→(∃v w',s.run P w= .ok v w'∧Fin base w0 μ K v w')→
    o.upon P a next Q ((do let d←resolve a.eval c o.type;invoke d.target d.args:Sem Next).run P w):=by
   intro b s hc hb hs
   have e:(resolve a.eval c o.type)=pure {target:= .builtin b c.argTypes o.type (c.args.map fun| .const _=>true|_=>false),args:=c.args.map a.eval}:=by
    unfold resolve
    rw[hc]
    rfl
   rw[e,Sem.run_bind,Sem.run_pure,Result.andThen_ok]
   simp only[invoke,hb]
   exact val hs
  have fnc:∀(x:Operand) (f:FuncId) (first caps:List AV),c.callee= .value x→Rel μ (.fn f first caps) (a.eval x)→ACalls P f (first++(c.args.toList.map (cop n)).map (aev ρ)++caps) h K→
    o.upon P a next Q ((do let d←resolve a.eval c o.type;invoke d.target d.args:Sem Next).run P w):=by
   intro x f first caps hc hr hk
   cases hv1:a.eval x<;>rw[hv1] at hr<;>cases hr
   rename_i vs ws h1 h2 h3 h4
   have e:(resolve a.eval c o.type)=pure {target:= .fn (.func f) ws,args:=vs++c.args.map a.eval}:=by
    unfold resolve
    rw[hc]
    simp only[hv1,Deferred.ofValue]
   rw[e,Sem.run_bind,Sem.run_pure,Result.andThen_ok]
   simp only[invoke]
   have c1:RelA μ first vs.toList:=⟨by simpa using h1,fun i u v hu hv=>h2 i u v hu (by simpa using hv)⟩
   have c3:RelA μ caps ws.toList:=⟨by simpa using h3,fun i u v hu hv=>h4 i u v hu (by simpa using hv)⟩
   have hi:=hk base w0 μ w _ R ((c1.append (cops_rel hρ c.args.toList)).append c3)
   have ea:(vs.toList++c.args.toList.map a.eval++ws.toList).toArray=vs++c.args.map a.eval++ws:=by
    apply Array.ext'
    simp
   rw[ea] at hi
   refine upon_inv hi ?_
   rintro v w' ⟨μ',r,h',q1,q2,q3,q4⟩
   exact hn v w' ⟨μ',r,h',q1,q2,q3,q4⟩
  have args1:∀x:Operand,c.args.toList=[x]→c.args= #[x]:=fun x h=>Array.ext' (by simpa using h)
  have args2:∀x y:Operand,c.args.toList=[x,y]→c.args= #[x,y]:=fun x y h=>Array.ext' (by simpa using h)
  have types1:∀x:TypeId,c.argTypes.toList=[x]→c.argTypes= #[x]:=fun x h=>Array.ext' (by simpa using h)
  have types2:∀x y:TypeId,c.argTypes.toList=[x,y]→c.argTypes= #[x,y]:=fun x y h=>Array.ext' (by simpa using h)
  split at hx
  ·rename_i f hc
   exact fnc _ f [] [] hc (.fn rfl (fun i u v hu=>by simp at hu) rfl (fun i u v hu=>by simp at hu)) (by simpa [aexec] using hx)
  ·rename_i x _ hc
   simp only[aexec] at hx
   have hr:=cop_rel hρ x
   split at hx
   ·rename_i f first caps e1
    rw[e1] at hr
    exact fnc x f first caps hc hr hx
   ·exact hx.elim
  ·rename_i hc
   split at hx
   ·rename_i x t ha ht'
    have ha':=args1 _ ha
    have ht'':=types1 _ ht'
    have hr:=cop_rel hρ x
    split at hx
    ·rename_i e hu
     refine blt .len _ hc (fun _=>rfl) ?_
     rw[ha',ht'']
     simp only[aexec] at hx
     split at hx
     ·rename_i e1
      rw[e1] at hr
      cases hv1:a.eval x<;>rw[hv1] at hr<;>cases hr
      all_goals exact⟨_,_,by simp[Builtin.len_,run_underlying hu,hv1,goInt],Fin.same R (.int _ _) hx⟩
     ·rename_i hh _;cases hh
     ·exact hx.elim
    ·rename_i hu
     refine blt .len _ hc (fun _=>rfl) ?_
     rw[ha',ht'']
     simp only[aexec] at hx
     split at hx
     ·rename_i hh _;cases hh
     ·rename_i e1
      rw[e1] at hr
      cases hv1:a.eval x<;>rw[hv1] at hr<;>cases hr
      all_goals exact⟨_,_,by simp[Builtin.len_,run_underlying hu,hv1,goInt],Fin.same R (.int _ _) hx⟩
     ·exact hx.elim
    ·exact hx.elim
   ·exact hx.elim
  ·rename_i hc
   split at hx
   ·rename_i x t ha ht'
    have ha':=args1 _ ha
    have ht'':=types1 _ ht'
    have hr:=cop_rel hρ x
    split at hx
    ·rename_i e hu
     refine blt .cap _ hc (fun _=>rfl) ?_
     rw[ha',ht'']
     simp only[aexec] at hx
     split at hx
     ·rename_i m e1
      rw[e1] at hr
      cases hv1:a.eval x<;>rw[hv1] at hr
      all_goals first
       |(cases hr;done)
       |(cases hr with
        |snil hcc=>
         have:=hcc m rfl
         subst this
         exact⟨_,_,by simp[Builtin.cap_,run_underlying hu,hv1,goInt],Fin.same R (.int _ _) hx⟩
        |sl hp hA hl hcc ht=>
         have:=hcc m rfl
         subst this
         exact⟨_,_,by simp[Builtin.cap_,run_underlying hu,hv1,goInt],Fin.same R (.int _ _) hx⟩)
     ·exact hx.elim
    ·exact hx.elim
   ·exact hx.elim
  ·rename_i hc
   split at hx
   ·rename_i x ys ha
    simp only[aexec] at hx
    have hr:=cop_rel hρ x
    split at hx
    ·rename_i k i e1
     rw[e1] at hr
     cases hv1:a.eval x<;>rw[hv1] at hr<;>cases hr
     obtain⟨m,hm,hk⟩:=mnx_any (P:=P) (w:=w) (cops_rel hρ ys) hx
     refine blt .min _ hc (fun _=>rfl) ⟨_,_, ?_,Fin.same R (.int _ _) hk⟩
     simp only[Builtin.min_,Array.toList_map,ha,List.map_cons,hv1]
     exact hm
    ·exact hx.elim
   ·exact hx.elim
  ·rename_i hc
   split at hx
   ·rename_i x ys ha
    simp only[aexec] at hx
    have hr:=cop_rel hρ x
    split at hx
    ·rename_i k i e1
     rw[e1] at hr
     cases hv1:a.eval x<;>rw[hv1] at hr<;>cases hr
     obtain⟨m,hm,hk⟩:=mnx_any (P:=P) (w:=w) (cops_rel hρ ys) hx
     refine blt .max _ hc (fun _=>rfl) ⟨_,_, ?_,Fin.same R (.int _ _) hk⟩
     simp only[Builtin.max_,Array.toList_map,ha,List.map_cons,hv1]
     exact hm
    ·exact hx.elim
   ·exact hx.elim
  ·rename_i hc
   split at hx
   ·rename_i s x t t' ha ht'
    have ha':=args2 _ _ ha
    have ht'':=types2 _ _ ht'
    split at hx
    ·rename_i htt
     subst htt
     split at hx
     ·split at hx
      ·split at hx
       ·split at hx
        ·rename_i e hu _ ie hie _ z hz hcc
         refine blt .append _ hc (fun _=>rfl) ?_
         rw[ha',ht'']
         have hx':=append_any (ty:=o.type) hu hie hz hcc.1 hcc.2 (cop_rel hρ s) (cop_rel hρ x) R hx
         simpa using hx'
        ·exact hx.elim
       ·exact hx.elim
      ·exact hx.elim
     ·exact hx.elim
    ·exact hx.elim
   ·exact hx.elim
  ·rename_i hc
   split at hx
   ·rename_i d s t t' ha ht'
    have ha':=args2 _ _ ha
    have ht'':=types2 _ _ ht'
    split at hx
    ·split at hx
     ·rename_i e hu _ ie hie
      refine blt .copy _ hc (fun _=>rfl) ?_
      rw[ha',ht'']
      have hx':=copy_any (t':=t') (ty:=o.type) hu hie (cop_rel hρ d) (cop_rel hρ s) R hx
      simpa using hx'
     ·exact hx.elim
    ·exact hx.elim
   ·exact hx.elim
  ·exact hx.elim
 all_goals exact hx.elim
end
end
end Ab
end Go.Proofs.Ytkbglkjpdndkiaa
