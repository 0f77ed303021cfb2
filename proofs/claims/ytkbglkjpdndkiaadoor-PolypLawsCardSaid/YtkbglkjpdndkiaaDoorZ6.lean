/- Joined texts: L2 L3 M7 M12 C7 Q1 Q2 Q3 R1 R2. No condition. -/
import Derived.Test.YtkbglkjpdndkiaaDoorZ5
import Derived.WalkKit
import Derived.ProofKit
import Derived.OpenShut
import Derived.ChangeSame
import Derived.Carry
import Derived.Deep.Slices
import Derived.Test.YtkbglkjpdndkiaaDoorProg
import Derived.KernelRfl
namespace Go.Proofs.YtkbglkjpdndkiaaDoor
namespace Ab
open Go Go.RowKit
set_option linter.unusedSimpArgs false
set_option linter.unusedVariables false
attribute [local go_sem ↓] x_mv x_pick x_bin x_beq x_peq x_seq x_cat x_aeq x_idxS x_idxV x_un x_cvI x_bts x_idx x_idxA x_fld x_ld x_st x_nn x_prt x_slc x_mk x_bsl x_bld x_box x_alloc x_len x_capo x_mnx x_app x_cpy x_mkf x_ext x_call x_callV x_bad s_none s_some s_nil s_cons s_chks w_skip w_reg tP_fin tP_no tP_alt w_seq w_cond w_block w_exit w_ret t_normal t_exit t_ret b_normal b_ret b_exit n_normal n_exit n_ret p_normal p_ret f_nil f_t f_c k_ops k_chk k_fin
attribute [local go_sem] e_t e_c e_f u_some u_none u_at env_at k_v k_pick k_add k_sub k_mul k_quo k_rem k_and k_or k_xor k_shl k_shr k_eql k_neq k_lss k_leq k_gtr k_geq k_beq k_peqn k_peqs k_neg k_not k_com k_cvI k_idxS k_idxV1 k_idxVn k_idx k_idxA k_idxG k_ldG k_gld k_seq k_cat k_aeq k_eqs k_fld k_ld1 k_ldn k_get k_gets k_sti k_stb k_stp k_sts k_stf k_sta k_put k_nn k_prt1 k_prtn k_slc_a k_slc_b k_slc_c k_mk k_agg k_bsl k_box k_len k_lenS k_cap k_max k_min k_ext k_callV k_true k_false k_gtt k_gtf k_gft k_gsk k_gff k_lit1i k_lit2i k_lit3i k_c0 k_c1 k_ck List.getElem?_cons_zero List.getElem?_cons_succ List.getElem?_nil Option.getD_some Option.getD_none tupOf List.map_cons List.map_nil Option.map_some Option.map_none List.nil_append List.cons_append List.append_nil Nat.mul_one Int.toNat_natCast Nat.zero_add
attribute [local go_sem_proc] Nat.reduceEqDiff Nat.reduceAdd Int.reduceToNat
attribute [local go_sem_proc ↓] reduceIte
attribute [local go_sem] Bool.false_eq_true
section
open Go Go.RowKit Go.WideShapes Go.ChangeShapes Go.ChangeAt
inductive Reads (P:Program) (h:H):TypeId→List AV→Prop
 |int {t:TypeId} {k:IntKind} {n:Int} (ht:P.underlying t=some (.int k)) (hw:(Lit.int k n).wf=true):Reads P h t [.int k n]
 |bool {t:TypeId} {b:Bool} (ht:P.underlying t=some .bool):Reads P h t [.bool b]
 |str {t:TypeId} {s:ByteArray} (ht:P.underlying t=some .string) (hs:s.size≤maxLen):Reads P h t [.str s]
 |snil {t e:TypeId} (ht:P.underlying t=some (.slice e)):Reads P h t [.sl none 0 0 none]
 |sl {t e:TypeId} {id len:Nat} {r:Row} (ht:P.underlying t=some (.slice e)) (hr:h.rows id=some r) (ho:r.own=none) (hlen:len≤maxLen) (hl:r.cells.length=len*P.cellsOf e)
   (he:∀i,i<len→Reads P h e ((r.cells.drop (i*P.cellsOf e)).take (P.cellsOf e))):Reads P h t [.sl (some id) 0 len none]
 |struct {t:TypeId} {fs:Array Field} {l:List AV} (ht:P.underlying t=some (.struct fs)) (hl:l.length=P.cellsOf t)
   (hf:∀f∈fs.toList,Reads P h f.type ((l.drop f.offset).take (P.cellsOf f.type))):Reads P h t l
theorem Reads.mono {P:Program} {h h':H} (hl:h.le h') {t:TypeId} {l:List AV} (r:Reads P h t l):Reads P h' t l:=by
 induction r with
 |int ht hw=>exact .int ht hw
 |bool ht=>exact .bool ht
 |str ht hs=>exact .str ht hs
 |snil ht=>exact .snil ht
 |sl ht hr ho hlen hl' _ ih=>exact .sl ht (hl.2 _ _ hr) ho hlen hl' ih
 |struct ht hl' _ ih=>exact .struct ht hl' ih
def ReadsV (P:Program) (h:H) (t:TypeId) (u:AV):Prop:=
 match P.underlying t with
 |some (.struct _)=>∃l,u= .agg l∧Reads P h t l
 |_=>Reads P h t [u]
theorem ReadsV.mono {P:Program} {h h':H} (hl:h.le h') {t:TypeId} {u:AV} (r:ReadsV P h t u):ReadsV P h' t u:=by
 unfold ReadsV at*
 split at r
 ·obtain⟨l,e,r⟩:=r;exact⟨l,e,r.mono hl⟩
 ·exact r.mono hl
def plainB (P:Program):Nat→TypeId→Bool
 |0,_=>false
 |d+1,t=>match P.underlying t with
  |some .bool=>true
  |some (.int _)=>true
  |some .string=>true
  |some (.slice e)=>decide (0<P.cellsOf e)&&plainB P d e
  |some (.struct fs)=>fs.toList.all (fun f=>plainB P d f.type)&&P.cellsOf t==(fs.toList.map fun f=>P.cellsOf f.type).sum&&
    (List.range fs.toList.length).all fun j=>match fs.toList[j]? with|some f=>f.offset==((fs.toList.take j).map fun f=>P.cellsOf f.type).sum|none=>true
  |_=>false
section
variable {H':Type} {enc:TypeId×Value→H'} {P:Program} {w:World}
theorem cells_get {base:Nat} {a:Addr} {n:Nat} {cs:List Value} (h:w.cells? base a n=some cs):cs.length=n∧∀i v,cs[i]? =some v→w.cell? (a.add i)=some v:=by
 unfold World.cells? at h
 split at h
 ·refine⟨by simpa using mapM_some_length h,fun i v hv=> ?_⟩
  have hi:i<n:=by
   have:=mapM_some_length h
   have h2:=(List.getElem?_eq_some_iff.1 hv).1
   simp at this
   omega
  rw[mapM_some_get h i i (by simp[hi]),hv]
 ·cases h
theorem cell_block {a:Addr} {v:Value} (h:w.cell? a=some v):a.block<w.heap.size:=by
 unfold World.cell? at h
 split at h
 ·rename_i c _ _ e
  exact(Array.getElem?_eq_some_iff.1 e).1
 ·cases h
theorem Rep.note {base:Nat} {w0:World} {μ:Mu} {h:H} (R:Rep base w0 μ w h) {a:Addr} {z:Nat} {l:List AV} (ha:a.block<base) (hl:∀(j:Nat) (u:AV),l[j]? =some u→∃v,w.cell? (a.add j)=some v∧Rel μ u v):
  μ.le (μ.put h.next ⟨a,z,none⟩)∧Rep base w0 (μ.put h.next ⟨a,z,none⟩) w (h.new ⟨none,z,l⟩):=by
 have hfree:=R.free h.next (Nat.le_refl _)
 have hle:=Mu.le_put hfree (⟨a,z,none⟩:Pl)
 refine⟨hle,R.below,R.size,R.glob,fun id hid=> ?_,fun id r hr=> ?_,fun id id' r r' p p' hr hr' ho ho' hp hp'=> ?_⟩
 ·simp only[H.new] at hid
  simp only[Mu.put]
  rw[if_neg (by omega)]
  exact R.free id (by omega)
 ·simp only[H.new] at hr
  split at hr
  ·rename_i e
   injection hr with hr
   subst hr
   subst e
   exact⟨⟨a,z,none⟩,by simp[Mu.put],ha,rfl,fun j u hu=>by
    obtain⟨v,h1,h2⟩:=hl j u hu
    exact⟨v,h1,h2.mono hle⟩⟩
  ·obtain⟨p,hp,hR⟩:=R.row id r hr
   exact⟨p,hle _ _ hp,hR.mono hle⟩
 ·have old:∀{i:Nat} {r:Row} {p:Pl},(h.new ⟨none,z,l⟩).rows i=some r→r.own≠none→(μ.put h.next ⟨a,z,none⟩) i=some p→h.rows i=some r∧μ i=some p:=by
   intro i r p hr ho hp
   simp only[H.new] at hr
   split at hr
   ·injection hr with hr
    subst hr
    exact absurd rfl ho
   ·rename_i e
    simp only[Mu.put] at hp
    rw[if_neg e] at hp
    exact⟨hr,hp⟩
  obtain⟨a1,a2⟩:=old hr ho hp
  obtain⟨b1,b2⟩:=old hr' ho' hp'
  exact R.apart id id' r r' p p' a1 b1 ho ho' a2 b2
theorem sum_take_succ {α:Type} (l:List α) (g:α→Nat) (j:Nat) (x:α) (h:l[j]? =some x):((l.take (j+1)).map g).sum=((l.take j).map g).sum+g x:=by
 obtain⟨hj,rfl⟩:=List.getElem?_eq_some_iff.1 h
 rw[List.take_succ_eq_append_getElem hj,List.map_append,List.sum_append]
 simp
theorem absorb (base:Nat):∀(n d:Nat) (t:TypeId) (cs:List Value) (x:DataW H'×List MemPlace) (μ:Mu) (h:H),plainB P d t=true→DataW.trod enc P w base (fun _=>true) true n t cs=some x→
  Rep w.heap.size w μ w h→∃μ' h' l,μ.le μ'∧h.le h'∧Rep w.heap.size w μ' w h'∧RelA μ' l cs∧Reads P h' t l:=by
 intro n
 induction n with
 |zero=>intro d t cs x μ h _ hx;simp[DataW.trod] at hx
 |succ n ih=>
  intro d t cs x μ h hp hx R
  cases d with
  |zero=>simp[plainB] at hp
  |succ d=>
   rw[DataW.trod_step] at hx
   unfold DataW.trodStep at hx
   unfold plainB at hp
   split at hx
   case h_1 b ht=>exact⟨μ,h,[.bool b],μ.le_refl,H.le_refl h,R,(RelA.nil μ).cons (.bool b), .bool ht⟩
   case h_2 k k' m ht=>
    split at hx
    ·rename_i hc
     obtain⟨rfl,hw⟩:=hc
     exact⟨μ,h,[.int k' m],μ.le_refl,H.le_refl h,R,(RelA.nil μ).cons (.int k' m), .int ht hw⟩
    ·cases hx
   case h_4 s ht=>
    split at hx
    ·rename_i hc
     exact⟨μ,h,[.str s],μ.le_refl,H.le_refl h,R,(RelA.nil μ).cons (.str s), .str ht hc⟩
    ·cases hx
   case h_7 e ht=>exact⟨μ,h,[.sl none 0 0 none],μ.le_refl,H.le_refl h,R,(RelA.nil μ).cons (.snil (fun x hx=>by cases hx)), .snil ht⟩
   case h_8 e a len cap ht=>
    rw[ht] at hp
    simp only[Bool.and_eq_true,decide_eq_true_eq] at hp
    obtain⟨hpos,hpe⟩:=hp
    simp only at hx
    split at hx
    ·rename_i hc
     simp only[Option.map_eq_some_iff,Option.bind_eq_some_iff,if_true] at hx
     obtain⟨elems,he,rest,hrest,rfl⟩:=hx
     rcases Nat.eq_zero_or_pos cap with hc0|hc0
     ·have hl0:len=0:=by omega
      subst hc0;subst hl0
      exact⟨μ,h,[.sl none 0 0 none],μ.le_refl,H.le_refl h,R,(RelA.nil μ).cons (.snil (fun x hx=>by cases hx)), .snil ht⟩
     ·--the block is there
      have hblk:a.block<w.heap.size:=by
       rcases Nat.eq_zero_or_pos len with hl0|hl0
       ·subst hl0
        have h0:=mapM_some_get hrest 0 0 (List.getElem?_range (by omega))
        have hne:=mapM_some_length hrest
        rw[List.length_range] at hne
        obtain⟨y,hy⟩:∃y,rest[0]? =some y:=⟨_,List.getElem?_eq_getElem (by omega)⟩
        rw[hy] at h0
        simp only[Option.bind_eq_some_iff] at h0
        obtain⟨cs',hcs,_⟩:=h0
        obtain⟨h1,h2⟩:=cells_get hcs
        have:=cell_block (h2 0 _ (List.getElem?_eq_getElem (by omega)))
        simpa [block_add] using this
       ·have h0:=mapM_some_get he 0 0 (List.getElem?_range (by omega))
        have hne:=mapM_some_length he
        rw[List.length_range] at hne
        obtain⟨y,hy⟩:∃y,elems[0]? =some y:=⟨_,List.getElem?_eq_getElem (by omega)⟩
        rw[hy] at h0
        simp only[Option.bind_eq_some_iff] at h0
        obtain⟨cs',hcs,_⟩:=h0
        obtain⟨h1,h2⟩:=cells_get hcs
        have:=cell_block (h2 0 _ (List.getElem?_eq_getElem (by omega)))
        simpa [block_add] using this
      --the elements,one after the other
      have step:∀m,m≤len→∃(μ':Mu) (h':H) (l:List AV),μ.le μ'∧h.le h'∧Rep w.heap.size w μ' w h'∧l.length=m*P.cellsOf e∧(∀(j:Nat) (u:AV),l[j]? =some u→∃v,w.cell? (a.add j)=some v∧Rel μ' u v)∧
        ∀i,i<m→Reads P h' e ((l.drop (i*P.cellsOf e)).take (P.cellsOf e)):=by
       intro m
       induction m with
       |zero=>exact fun _=>⟨μ,h,[],μ.le_refl,H.le_refl h,R,by simp,fun j u hu=>by simp at hu,fun i hi=>by omega⟩
       |succ m ihm=>
        intro hm
        obtain⟨μ1,h1,l1,q1,q2,q3,q4,q5,q6⟩:=ihm (by omega)
        have hne:=mapM_some_length he
        rw[List.length_range] at hne
        have h0:=mapM_some_get he m m (List.getElem?_range (by omega))
        rw[List.getElem?_eq_getElem (show m<elems.length by omega)] at h0
        simp only[Option.bind_eq_some_iff] at h0
        obtain⟨cs',hcs,hy⟩:=h0
        obtain⟨g1,g2⟩:=cells_get hcs
        obtain⟨μ2,h2,l2,r1,r2,r3,r4,r5⟩:=ih d e cs' _ μ1 h1 hpe hy q3
        have hl2:l2.length=P.cellsOf e:=by rw[r4.1,g1]
        refine⟨μ2,h2,l1++l2,Mu.le_trans q1 r1,H.le_trans q2 r2,r3,by rw[List.length_append,q4,hl2,Nat.succ_mul],fun j u hu=> ?_,fun i hi=> ?_⟩
        ·rcases Nat.lt_or_ge j l1.length with hj|hj
         ·rw[List.getElem?_append_left hj] at hu
          obtain⟨v,e1,e2⟩:=q5 j u hu
          exact⟨v,e1,e2.mono r1⟩
         ·rw[List.getElem?_append_right hj] at hu
          have hj2:j-l1.length<cs'.length:=by
           have:=(List.getElem?_eq_some_iff.1 hu).1
           omega
          refine⟨cs'[j-l1.length], ?_,r4.2 _ _ _ hu (List.getElem?_eq_getElem hj2)⟩
          have:=g2 _ _ (List.getElem?_eq_getElem hj2)
          rw[add_add,←q4] at this
          rwa[show l1.length+(j-l1.length)=j from by omega] at this
        ·rcases Nat.lt_or_ge i m with hi2|hi2
         ·have:=(q6 i hi2).mono r2
          have hfit:i*P.cellsOf e+P.cellsOf e≤l1.length:=by
           rw[q4,←Nat.succ_mul]
           exact Nat.mul_le_mul_right _ hi2
          rw[List.drop_append_of_le_length (by omega),List.take_append_of_le_length (by simp;omega)]
          exact this
         ·have:i=m:=by omega
          subst this
          rw[←q4,List.drop_left,←hl2,List.take_length]
          exact r5
      obtain⟨μ1,h1,l,q1,q2,q3,q4,q5,q6⟩:=step len (Nat.le_refl _)
      obtain⟨s1,s2⟩:=q3.note (z:=P.cellsOf e) hblk q5
      have hw1:=q3.wf
      refine⟨_,_,[.sl (some h1.next) 0 len none],Mu.le_trans q1 s1,H.le_trans q2 (H.le_new hw1 (H.le_refl h1) _),s2,(RelA.nil _).cons ?_, ?_⟩
      ·exact Rel.sl (p:=⟨a,P.cellsOf e,none⟩) (by simp[Mu.put]) (.inr (by simp[Addr.add])) hc.2.1 (fun x hx=>by cases hx) (fun T hT=>by cases hT)
      ·exact .sl ht (H.rows_new _ _) rfl (Nat.le_trans hc.2.1 hc.2.2) q4 (fun i hi=>(q6 i hi).mono (H.le_new hw1 (H.le_refl h1) _))
    ·cases hx
   case h_9=>
    rename_i cs _ _ fs ht
    rw[ht] at hp
    simp only[Bool.and_eq_true,beq_iff_eq,List.all_eq_true] at hp
    obtain⟨⟨hpf,hsum⟩,hoff⟩:=hp
    split at hx
    ·rename_i hc
     simp only[Option.map_eq_some_iff] at hx
     obtain⟨xs,hm,rfl⟩:=hx
     have off:∀j f,fs.toList[j]? =some f→f.offset=((fs.toList.take j).map fun f=>P.cellsOf f.type).sum:=by
      intro j f hf
      have hj:=(List.getElem?_eq_some_iff.1 hf).1
      have:=hoff j (List.mem_range.2 hj)
      rw[hf] at this
      simpa using this
     have step:∀m,m≤fs.toList.length→∃(μ':Mu) (h':H) (l:List AV),μ.le μ'∧h.le h'∧Rep w.heap.size w μ' w h'∧l.length=((fs.toList.take m).map fun f=>P.cellsOf f.type).sum∧RelA μ' l (cs.take ((fs.toList.take m).map fun f=>P.cellsOf f.type).sum)∧
       ∀j f,j<m→fs.toList[j]? =some f→Reads P h' f.type ((l.drop f.offset).take (P.cellsOf f.type)):=by
      intro m
      induction m with
      |zero=>exact fun _=>⟨μ,h,[],μ.le_refl,H.le_refl h,R,by simp,by simpa using RelA.nil μ,fun j f hj=>by omega⟩
      |succ m ihm=>
       intro hm2
       obtain⟨μ1,h1,l1,q1,q2,q3,q4,q5,q6⟩:=ihm (by omega)
       obtain⟨f,hf⟩:∃f,fs.toList[m]? =some f:=⟨_,List.getElem?_eq_getElem (by omega)⟩
       have h0:=mapM_some_get hm m f hf
       rw[List.getElem?_eq_getElem (show m<xs.length by rw[mapM_some_length hm];omega)] at h0
       have ho:=off m f hf
       obtain⟨μ2,h2,l2,r1,r2,r3,r4,r5⟩:=ih d f.type _ _ μ1 h1 (hpf f (List.mem_of_getElem? hf)) h0 q3
       have htot:((fs.toList.take (m+1)).map fun f=>P.cellsOf f.type).sum≤cs.length:=by
        rw[hc,hsum]
        conv=>rhs;rw[←List.take_append_drop (m+1) fs.toList]
        rw[List.map_append,List.sum_append]
        omega
       rw[sum_take_succ _ _ _ _ hf] at htot⊢
       have hl2:l2.length=P.cellsOf f.type:=by
        rw[r4.1,List.length_take,List.length_drop,ho]
        omega
       refine⟨μ2,h2,l1++l2,Mu.le_trans q1 r1,H.le_trans q2 r2,r3,by rw[List.length_append,q4,hl2], ?_,fun j g hj hg=> ?_⟩
       ·rw[List.take_add,←ho]
        rw[←ho] at q5
        exact(q5.mono r1).append r4
       ·rcases Nat.lt_or_ge j m with hj2|hj2
        ·have h3:=(q6 j g hj2 hg).mono r2
         have hfit:g.offset+P.cellsOf g.type≤l1.length:=by
          rw[q4,off j g hg,←sum_take_succ fs.toList (fun f=>P.cellsOf f.type) j g hg]
          have:fs.toList.take m=fs.toList.take (j+1)++(fs.toList.take m).drop (j+1):=by
           conv=>lhs;rw[←List.take_append_drop (j+1) (fs.toList.take m)]
           rw[List.take_take,Nat.min_eq_left (by omega)]
          rw[this,List.map_append,List.sum_append]
          omega
         rw[List.drop_append_of_le_length (by omega),List.take_append_of_le_length (by simp;omega)]
         exact h3
        ·have:j=m:=by omega
         subst this
         rw[hf] at hg
         injection hg with hg
         subst hg
         rw[ho,←q4,List.drop_left,←hl2,List.take_length]
         exact r5
     obtain⟨μ1,h1,l,q1,q2,q3,q4,q5,q6⟩:=step fs.toList.length (Nat.le_refl _)
     rw[List.take_length,←hsum] at q4 q5
     rw[List.take_of_length_le (by omega)] at q5
     refine⟨μ1,h1,l,q1,q2,q3,q5, .struct ht q4 fun f hf=> ?_⟩
     obtain⟨j,hj,rfl⟩:=List.getElem_of_mem hf
     exact q6 j _ hj (List.getElem?_eq_getElem hj)
    ·cases hx
   all_goals first
    |(simp only[‹P.underlying t=_›] at hp;cases hp;done)
    |(cases hx;done)
    |(split at hp<;>simp_all;done)
    |skip
def ReadsAll (P:Program) (h:H):List TypeId→List AV→Prop
 |[],[]=>True
 |t::ts,u::us=>ReadsV P h t u∧ReadsAll P h ts us
 |_,_=>False
theorem absorbV {base b d:Nat} {t:TypeId} {v:Value} {x:DataW H'} {ps:List MemPlace} {μ:Mu} {h:H} (hp:plainB P d t=true) (hx:DataW.Trod enc P w base (fun _=>true) true t v x ps) (hok:Value.okWide P w .any b t v)
  (R:Rep w.heap.size w μ w h):∃μ' h' u,μ.le μ'∧h.le h'∧Rep w.heap.size w μ' w h'∧Rel μ' u v∧ReadsV P h' t u:=by
 obtain⟨n,hx⟩:=hx
 obtain⟨μ',h',l,q1,q2,q3,q4,q5⟩:=absorb base n d t _ _ μ h hp hx R
 unfold ReadsV
 have one:v.cells.toList=[v]→∃u,Rel μ' u v∧l=[u]:=by
  intro hv
  rw[hv] at q4
  cases l with
  |nil=>simp[RelA] at q4
  |cons u l=>
   have hl:l=[]:=by
    have:=q4.1
    simp at this
    exact this
   subst hl
   exact⟨u,q4.2 0 u v rfl rfl,rfl⟩
 cases d with
 |zero=>simp[plainB] at hp
 |succ d=>
  unfold plainB at hp
  split at hp
  ·rename_i ht
   have hv:∃y,v= .bool y:=by
    simp only[Value.okWide,ht,Cell.okWide] at hok
    cases v<;>simp_all [Cell.ok]
   obtain⟨y,rfl⟩:=hv
   obtain⟨u,hu,rfl⟩:=one rfl
   exact⟨μ',h',u,q1,q2,q3,hu,by simpa [ht] using q5⟩
  ·rename_i k ht
   obtain⟨y,rfl⟩:=okWide_int ht hok
   obtain⟨u,hu,rfl⟩:=one rfl
   exact⟨μ',h',u,q1,q2,q3,hu,by simpa [ht] using q5⟩
  ·rename_i ht
   obtain⟨y,rfl⟩:=okWide_string ht hok
   obtain⟨u,hu,rfl⟩:=one rfl
   exact⟨μ',h',u,q1,q2,q3,hu,by simpa [ht] using q5⟩
  ·rename_i e ht
   obtain⟨y,l',c',rfl⟩:=okWide_slice ht hok
   obtain⟨u,hu,rfl⟩:=one rfl
   exact⟨μ',h',u,q1,q2,q3,hu,by simpa [ht] using q5⟩
  ·rename_i fs ht
   have hv:∃cs,v= .agg cs:=by
    simp only[Value.okWide,ht] at hok
    obtain⟨cs,rfl,_⟩:=hok
    exact⟨cs,rfl⟩
   obtain⟨cs,rfl⟩:=hv
   refine⟨μ',h', .agg l,q1,q2,q3, ?_,by simpa [ht] using q5⟩
   simpa [Value.cells] using q4.agg
  ·cases hp
theorem absorb_args {base b d:Nat}:∀{ts:List TypeId} {vs:List Value} {ds:List (DataW H')} {ps:List MemPlace} {μ:Mu} {h:H},(∀t∈ts,plainB P d t=true)→DataW.TrodAll enc P w base (fun _=>true) true ts vs ds ps→
  (∀(j:Nat) (t:TypeId) (v:Value),ts[j]? =some t→vs[j]? =some v→Value.okWide P w .any b t v)→Rep w.heap.size w μ w h→∃μ' h' us,h.le h'∧Rep w.heap.size w μ' w h'∧μ.le μ'∧RelA μ' us vs∧ReadsAll P h' ts us
 |[],[],[],_,μ,h,_,_,_,R=>⟨μ,h,[],H.le_refl h,R,μ.le_refl,RelA.nil μ,trivial⟩
 |t::ts,v::vs,x::ds,_,μ,h,hp,⟨p,q,hx,hrest,_⟩,hok,R=>by
  obtain⟨μ1,h1,u,q1,q2,q3,q4,q5⟩:=absorbV (hp t (by simp)) hx (hok 0 t v rfl rfl) R
  obtain⟨μ2,h2,us,r1,r2,r3,r4,r5⟩:=absorb_args (fun t ht=>hp t (by simp[ht])) hrest (fun j t v ht hv=>hok (j+1) t v (by simpa using ht) (by simpa using hv)) q3
  exact⟨μ2,h2,u::us,H.le_trans q2 r1,r2,Mu.le_trans q1 r3,RelA.cons (q4.mono r3) r4,q5.mono r1,r5⟩
 |[],_::_,_,_,_,_,_,hx,_,_=>hx.elim
 |[],[],_::_,_,_,_,_,hx,_,_=>hx.elim
 |_::_,[],_,_,_,_,_,hx,_,_=>hx.elim
 |_::_,_::_,[],_,_,_,_,hx,_,_=>hx.elim
theorem trodAll_stays (hl:laidOutB P=true) {W W':World} {sp':Nat→Bool}:∀{ts:List TypeId} {vs:List Value} {ds:List (DataW H')} {ps:List MemPlace},(∀t∈ts,P.readableRec t=true∧t<P.types.size)→
  DataW.TrodAll enc P W 0 (fun _=>true) true ts vs ds ps→(∀p∈ps,W.sameAt W' p)→(∀p∈ps,sp' p.block=true)→DataW.TrodAll enc P W' 0 sp' true ts vs ds ps
 |[],[],[],_,_,hx,_,_=>hx
 |t::ts,v::vs,x::ds,_,ht,⟨p,q,hx,hrest,e⟩,h1,h2=>by
  subst e
  exact⟨p,q,WideElems.Trod_stays hl (ht t (by simp)).1 (ht t (by simp)).2 hx (fun y hy=>h1 y (by simp[hy])) (fun y hy=>h2 y (by simp[hy])),
   trodAll_stays hl (fun t' ht'=>ht t' (by simp[ht'])) hrest (fun y hy=>h1 y (by simp[hy])) (fun y hy=>h2 y (by simp[hy])),rfl⟩
 |[],_::_,_,_,_,hx,_,_=>hx.elim
 |[],[],_::_,_,_,hx,_,_=>hx.elim
 |_::_,[],_,_,_,hx,_,_=>hx.elim
 |_::_,_::_,[],_,_,hx,_,_=>hx.elim
theorem trodAll_length:∀{ts:List TypeId} {vs:List Value} {ds:List (DataW H')} {ps:List MemPlace} {W:World} {b:Nat} {sp:Nat→Bool} {hd:Bool},DataW.TrodAll enc P W b sp hd ts vs ds ps→ds.length=ts.length
 |[],[],[],_,_,_,_,_,_=>rfl
 |_::_,_::_,_::_,_,_,_,_,_,⟨_,_,_,h,_⟩=>by simp[trodAll_length h]
 |[],_::_,_,_,_,_,_,_,hx=>hx.elim
 |[],[],_::_,_,_,_,_,_,hx=>hx.elim
 |_::_,[],_,_,_,_,_,_,hx=>hx.elim
 |_::_,_::_,[],_,_,_,_,_,hx=>hx.elim
theorem law_row {f:FuncId} {fn:Func} {s:ChangeSpec} {W:World} {b:Nat} {args:Array Value} {ds gs:List (DataW H')} {before:List MemPlace} {tb:TypeId} (hf:P.funcs[f]? =some fn) (hb:fn.body.isSome=true) (hname:(fn.name== "runtime.NumGoroutine")=false)
  (hg:GlobOK W.heap.size W) (hl:laidOutB P=true) (hts:(fn.params.toList.all fun t=>P.readableRec t&&decide (t<P.types.size)&&plainB P 8 t)=true) (hv:s.vars=[]) (hs:∀ds:List (DataW H'),ds.length=fn.params.size→s.fn H' ds={results:=[.lit (.bool true)],args:=ds})
  (hr:fn.resultTypes= #[tb]) (ht:P.underlying tb=some .bool) (hwalk:∀h avs,h.wf→ReadsAll P h fn.params.toList avs→ACalls P f avs h (fun r _=>r= .bool true))
  (hval:∀(j:Nat) t v,fn.params[j]? =some t→args[j]? =some v→Value.okWide P W .any b t v) (hW:DataW.Whole enc P fn.params.toList s.vars false W args.toList ds gs before):
  Calls P f args W fun e W'=>∃v,e= .returned v∧s.post enc P fn false true false false W args v W':=by
 have hall:∀t∈fn.params.toList,(P.readableRec t=true∧t<P.types.size)∧plainB P 8 t=true:=by
  intro t h
  have:=List.all_eq_true.1 hts t h
  simpa only[Bool.and_eq_true,decide_eq_true_eq] using this
 have hW':=hW
 have hlt:=hW.lt
 obtain⟨p,q,hA,hV,rfl,hfz,hnd⟩:=hW
 rw[hv] at hV
 obtain⟨rfl,rfl⟩:=trodVars_none hV
 have hd:=trodAll_length hA
 obtain⟨μ,h,us,_,R,_,hrel,hreads⟩:=absorb_args (fun t h=>(hall t h).2) hA (fun j t v ht hv=>hval j t v (by simpa using ht) (by simpa using hv)) (rep00 W hg)
 have hc:=law_calls hf hb hname R hrel (hwalk h us R.wf hreads)
 rw[show args.toList.toArray=args from by simp] at hc
 refine hc.mono ?_
 rintro e W' ⟨rfl,hB⟩
 have hsp:=hs ds (by simpa using hd)
 refine⟨_,rfl,post_kept (pa:=p) (pv:=[]) hW' (fun b sp hd=> ?_) (fun sp hsp'=> ?_) (fun sp _=> ?_) rfl hB ?_⟩
 ·rw[List.append_nil,hsp,hr]
  exact trodAll_cons_mk (shut_bool ht _) trodAll_mk0
 ·rw[List.append_nil,hsp]
  rw[List.append_nil] at hlt hsp'
  exact trodAll_stays hl (fun t h=>(hall t h).1) hA (fun x hx=>hB.same (hlt x hx)) (fun x hx=>hsp' x hx)
 ·rw[List.append_nil,hsp,hv]
  rfl
 ·exact ok_one hr rfl (okWide_bool_mk ht _)
end
end
section
set_option maxRecDepth 100000
section
variable {h:H} {u:AV}
theorem reads_int {t:TypeId} {k:IntKind} (ht:Tryd.prog.underlying t=some (.int k)) (r:ReadsV Tryd.prog h t u):∃n:Int,u= .int k n∧(Lit.int k n).wf=true:=by
 unfold ReadsV at r
 rw[ht] at r
 cases r with
 |int ht' hw=>rw[ht] at ht';injection ht' with e;injection e with e;subst e;exact⟨_,rfl,hw⟩
 |bool ht'=>rw[ht] at ht';cases ht'
 |str ht'=>rw[ht] at ht';cases ht'
 |snil ht'=>rw[ht] at ht';cases ht'
 |sl ht'=>rw[ht] at ht';cases ht'
 |struct ht'=>rw[ht] at ht';cases ht'
theorem reads_u64 (r:ReadsV Tryd.prog h 22 u):∃n:Nat,u= .int .u64 (n:Int)∧n<18446744073709551616:=by
 obtain⟨n,rfl,hw⟩:=reads_int Tryd.underlying22 r
 obtain⟨m,rfl,hm⟩:=wf_u64 hw
 exact⟨m,rfl,hm⟩
theorem reads_i64 (r:ReadsV Tryd.prog h 3 u):∃n:Int,u= .int .i64 n∧-9223372036854775808≤n∧n<9223372036854775808:=by
 obtain⟨n,rfl,hw⟩:=reads_int Tryd.underlying3 r
 exact⟨n,rfl,wf_i64 hw⟩
theorem cell_int {t:TypeId} {k:IntKind} (ht:Tryd.prog.underlying t=some (.int k)) {l:List AV} (r:Reads Tryd.prog h t l):∃n:Int,l=[.int k n]∧(Lit.int k n).wf=true:=by
 cases r with
 |int ht' hw=>rw[ht] at ht';injection ht' with e;injection e with e;subst e;exact⟨_,rfl,hw⟩
 |bool ht'=>rw[ht] at ht';cases ht'
 |str ht'=>rw[ht] at ht';cases ht'
 |snil ht'=>rw[ht] at ht';cases ht'
 |sl ht'=>rw[ht] at ht';cases ht'
 |struct ht'=>rw[ht] at ht';cases ht'
theorem cell_ints {t e:TypeId} {k:IntKind} (ht:Tryd.prog.underlying t=some (.slice e)) (he:Tryd.prog.underlying e=some (.int k)) (hz:Tryd.prog.cellsOf e=1) {l:List AV} (r:Reads Tryd.prog h t l):∃v xs,l=[v]∧IsW k h v xs∧(∀x∈xs,(Lit.int k x).wf=true)∧xs.length≤maxLen:=by
 cases r with
 |int ht' hw=>rw[ht] at ht';cases ht'
 |bool ht'=>rw[ht] at ht';cases ht'
 |str ht'=>rw[ht] at ht';cases ht'
 |snil ht'=>exact⟨_,[],rfl,⟨none,0,none,rfl, .inl ⟨rfl,rfl,rfl⟩⟩,fun x hx=>(by cases hx),by simp⟩
 |struct ht'=>rw[ht] at ht';cases ht'
 | @sl _ e' id len r ht' hr ho hlen hl hall=>
  rw[ht] at ht'
  injection ht' with e1
  injection e1 with e1
  subst e1
  rw[hz,Nat.mul_one] at hl
  have hall':∀i,(hi:i<len)→∃n:Int,r.cells[i]? =some (.int k n)∧(Lit.int k n).wf=true:=by
   intro i hi
   obtain⟨n,e2,hw⟩:=cell_int he (hall i hi)
   refine⟨n, ?_,hw⟩
   rw[hz,Nat.mul_one] at e2
   have:=congrArg (fun l=>l[0]?) e2
   simpa [List.getElem?_take,List.getElem?_drop] using this
  let xs:List Int:=r.cells.map fun v=>match v with| .int _ n=>n|_=>0
  have hx:∀i:Nat,i<len→∃n,r.cells[i]? =some (.int k n)∧xs[i]? =some n∧(Lit.int k n).wf=true:=by
   intro i hi
   obtain⟨n,h1,h2⟩:=hall' i hi
   exact⟨n,h1,by simp[xs,h1],h2⟩
  have hxl:xs.length=len:=by simp[xs,hl]
  refine⟨_,xs,rfl,⟨some id,0,none,by rw[hxl], .inr ⟨id,r,rfl,hr, .inl ho,by omega, ?_⟩⟩,fun x hm=> ?_,by rw[hxl];exact hlen⟩
  ·rw[List.drop_zero,List.take_of_length_le (by omega)]
   apply List.ext_getElem?
   intro i
   rw[W_get]
   rcases Nat.lt_or_ge i len with hi|hi
   ·obtain⟨n,h1,h2,_⟩:=hx i hi
    rw[h1,h2];rfl
   ·rw[List.getElem?_eq_none (by omega),List.getElem?_eq_none (by omega)];rfl
  ·obtain⟨i,hi,rfl⟩:=List.getElem_of_mem hm
   obtain⟨n,_,h2,h3⟩:=hx i (by omega)
   rw[List.getElem?_eq_getElem hi] at h2
   injection h2 with h2
   rw[h2]
   exact h3
theorem readsV_slice {t e:TypeId} (ht:Tryd.prog.underlying t=some (.slice e)) (r:ReadsV Tryd.prog h t u):Reads Tryd.prog h t [u]:=by
 unfold ReadsV at r
 rw[ht] at r
 exact r
theorem nats {xs:List Int} (hx:∀x∈xs,(Lit.int .u64 x).wf=true):∃ys:List Nat,xs=ys.map (fun n:Nat=>(n:Int))∧∀y∈ys,y<18446744073709551616:=by
 induction xs with
 |nil=>exact⟨[],rfl,by simp⟩
 |cons x xs ih=>
  obtain⟨ys,e,hy⟩:=ih (fun z hz=>hx z (by simp[hz]))
  obtain⟨m,rfl,hm⟩:=wf_u64 (hx x (by simp))
  refine⟨m::ys,by simp[e],fun y hy2=> ?_⟩
  rcases List.mem_cons.1 hy2 with rfl|h2
  ·exact hm
  ·exact hy y h2
theorem cell_words {t:TypeId} (ht:Tryd.prog.underlying t=some (.slice 22)) {l:List AV} (r:Reads Tryd.prog h t l):∃v xs,l=[v]∧IsN h v xs∧(∀x∈xs,x<18446744073709551616)∧xs.length≤maxLen:=by
 obtain⟨v,xs,rfl,h1,h2,h3⟩:=cell_ints ht Tryd.underlying22 (by kernel_rfl) r
 obtain⟨ys,rfl,hy⟩:=nats h2
 exact⟨v,ys,rfl,h1,hy,by simpa using h3⟩
theorem reads_words (r:ReadsV Tryd.prog h 33 u):∃xs,IsN h u xs∧(∀x∈xs,x<18446744073709551616)∧xs.length≤maxLen:=by
 obtain⟨v,xs,e,h1,h2,h3⟩:=cell_words (by kernel_rfl) (readsV_slice (e:=22) (by kernel_rfl) r)
 injection e with e
 subst e
 exact⟨xs,h1,h2,h3⟩
end
end
def wr (m:Nat):Int:=IntKind.i64.wrap (m:Int)
theorem learn {P:Program} {f:FuncId} {n i:Nat} {c:Option Nat} {r:Row} {h:H} {K:AV→H→Prop} (hr:h.rows i=some r) (ho:r.own≠none) (hz:r.esz=1)
  (hx:∀c':Nat,n≤c'→r.cells.length≤c'→c'≤maxLen→ACalls P f [.sl (some i) 0 n (some c')] (h.set i {r with cells:=r.cells++List.replicate (c'-r.cells.length) .junk}) K):ACalls P f [.sl (some i) 0 n c] h K:=by
 intro base w0 μ w vs R hrel
 obtain⟨v,vs',rfl,r1,r2⟩:=hrel.inv
 obtain rfl:=r2.inv_nil
 cases r1 with
 | @sl _ _ _ _ p cap A hp hA hl hc ht=>
  obtain⟨q,hq,hR⟩:=R.row i r hr
  rw[hp] at hq
  injection hq with hq
  subst hq
  obtain⟨t,hown⟩:∃t,r.own=some t:=Option.ne_none_iff_exists'.1 ho
  have hR':=hR
  unfold RowRep at hR'
  simp only[hown] at hR'
  obtain⟨g,cur,e1,e2,e3,e4,e5,e6,e7,e8⟩:=hR'
  have hcap:=ht _ e5
  rw[e3,hz,Nat.mul_one,Nat.zero_add] at hcap
  have hlen:(r.cells++List.replicate (cap-r.cells.length) AV.junk).length≤cur.size:=by simp;omega
  have R2:=R.write (w':=w) hr hown hp (cur:=cur) (cur':=cur) (by rw[e1];exact e4) (by rw[e1];exact e4) rfl (fun _ _=>rfl) rfl rfl rfl rfl hlen (fun j u hu=>by
   rcases Nat.lt_or_ge j r.cells.length with hj|hj
   ·rw[List.getElem?_append_left hj] at hu
    exact e8 j u hu
   ·have hjl:j<(r.cells++List.replicate (cap-r.cells.length) AV.junk).length:=(List.getElem?_eq_some_iff.1 hu).1
    rw[List.getElem?_append_right hj,List.getElem?_replicate] at hu
    split at hu
    ·injection hu with hu
     subst hu
     exact⟨cur[j]'(by omega),Array.getElem?_eq_getElem (by omega), .junk _⟩
    ·cases hu)
  have hmx:cap≤maxLen:=by rw[hz,Nat.mul_one] at e6;omega
  exact hx cap hl (by omega) hmx base w0 μ w _ R2 ((RelA.nil μ).cons (Rel.sl hp hA hl (fun x hx=>by injection hx with hx;exact hx.symm) ht))
theorem learn0 {P:Program} {f:FuncId} {c:Option Nat} {h:H} {K:AV→H→Prop} (hx:ACalls P f [.sl none 0 0 (some 0)] h K):ACalls P f [.sl none 0 0 c] h K:=by
 intro base w0 μ w vs R hrel
 obtain⟨v,vs',rfl,r1,r2⟩:=hrel.inv
 obtain rfl:=r2.inv_nil
 cases r1 with
 |snil hc=>exact hx base w0 μ w _ R ((RelA.nil μ).cons (Rel.snil (fun x hx=>by injection hx with hx;omega)))
def Own (b:Nat) (h:H) (v:AV):Prop:=∃id n c,v= .sl id 0 n c∧((id=none∧n=0)∨∃i r,id=some i∧b≤i∧h.rows i=some r∧r.own≠none∧r.esz=1)
theorem Own.set {b:Nat} {h:H} {v:AV} {k:Nat} {r q:Row} (hv:Own b h v) (hr:h.rows k=some r) (h1:q.own=r.own) (h2:q.esz=r.esz):Own b (h.set k q) v:=by
 obtain⟨id,n,c,rfl,h3⟩:=hv
 refine⟨id,n,c,rfl, ?_⟩
 rcases h3 with h3|⟨i,p,rfl,hb,hp,ho,hz⟩
 ·exact .inl h3
 ·by_cases e:i=k
  ·subst e
   rw[hp] at hr
   injection hr with hr
   subst hr
   exact .inr ⟨i,q,rfl,hb,H.rows_set _ _ _,by rw[h1];exact ho,by rw[h2];exact hz⟩
  ·exact .inr ⟨i,p,rfl,hb,by rw[H.rows_set_ne e];exact hp,ho,hz⟩
theorem Spoil_calls {b:Nat} {v:AV} {h:H} {K:AV→H→Prop} (hv:Own b h v)
  (hk:∀h',h'.wf→(∀a:H,a.wf→a.le h→a.next≤b→a.le h')→(∀b' u,Own b' h u→Own b' h' u)→K (.tup []) h'):ACalls Tryd.prog 41 [v] h K:=by
 obtain⟨id,n,c,rfl,h3⟩:=hv
 rcases h3 with⟨rfl,rfl⟩|⟨i,r,rfl,hb,hr,ho,hz⟩
 ·refine learn0 (in_keep_Spoil (by simp) fun hw=> ?_)
  unfold c_keep_Spoil
  simp only[go_sem]
  refine⟨by omega, .inl (Nat.le_refl _),(fun i hi=>by cases hi), ?_⟩
  refine for_rule (fun i ρ h'=>i≤0∧h'=h∧ρ 2= .sl none 0 0 (some 0)∧ρ 3= .int .i64 (i:Int)) 0 ⟨by omega,rfl,rfl,rfl⟩ (fun i ρ h hI=>hI.1) ?_
  rintro i ρ h' ⟨hi,rfl,h2,h3⟩
  have:i=0:=by omega
  subst this
  simp only[go_sem,h2,h3,ltF (Nat.le_refl 0)]
  exact fun _=>hk h' hw (fun a _ k _=>k) (fun _ _ h=>h)
 ·refine learn hr ho hz fun c' hn hc' hcm=>in_keep_Spoil (by simp) fun hw=> ?_
  unfold c_keep_Spoil
  have hml:maxLen≤9223372036854775807:=by decide
  simp only[go_sem]
  refine⟨by omega, .inr ⟨c',rfl,Nat.le_refl _⟩,(fun j hj=>by injection hj with hj;subst hj;exact⟨_,H.rows_set _ _ _, .inr hz⟩), ?_⟩
  have hil:=H.row_lt hw (H.rows_set h i _)
  refine for_rule (fun j ρ h'=>j≤c'∧h'.wf∧(∀a:H,a.wf→a.le h→a.next≤b→a.le h')∧(∀b' u,Own b' h u→Own b' h' u)∧ρ 2= .sl (some i) 0 c' (some c')∧ρ 3= .int .i64 (j:Int)∧∃q,h'.rows i=some q∧q.own≠none∧q.esz=1∧q.cells.length=c') c' ⟨by omega,hw,fun a ha k hab=>H.le_set ha k (by omega) _,fun b' u hu=>hu.set hr rfl rfl,rfl,rfl,_,H.rows_set _ _ _,ho,hz,by simp;omega⟩ (fun i ρ h hI=>hI.1) ?_
  rintro j ρ h' ⟨hj,hw',hka,hko,h2,h3,q,hq,hqo,hqz,hql⟩
  rcases Nat.lt_or_ge j c' with hlt|hge
  ·simp only[go_sem,h2,h3,ltT hlt]
   refine⟨by omega,by omega, ?_⟩
   simp only[go_sem,hq]
   refine⟨hqo,by omega, ?_⟩
   simp only[go_sem,h2,h3,incI (i:=j) (by omega)]
   have hjl:=H.row_lt hw' hq
   exact⟨by omega,H.wf_set hw' hjl _,fun a ha k hab=>H.le_set ha (hka a ha k hab) (by omega) _,fun b' u hu=>(hko b' u hu).set hq rfl rfl,by first|rfl|trivial|assumption,by first|rfl|trivial|assumption,_,H.rows_set _ _ _,hqo,hqz,by
    show(putAt q.cells _ _).length=c'
    rw[putAt_length (by simp;omega)]
    exact hql⟩
  ·simp only[go_sem,h2,h3,ltF hge]
   exact fun _=>hk h' hw' hka hko
theorem kSame_calls {v u:AV} {xs:List Nat} {h:H} {K:AV→H→Prop} (hv:IsN h v xs) (hu:IsN h u xs) (hl:xs.length<4611686018427387904) (hk:K (.bool true) h):ACalls Tryd.prog 16 [v,u] h K:=by
 obtain⟨id,off,c,rfl⟩:=hv.form
 obtain⟨id',off',c',rfl⟩:=hu.form
 refine in_keep_Same (by simp) fun hw=> ?_
 unfold c_keep_Same
 simp only[go_sem,neF (show(xs.length:Int)=xs.length from rfl)]
 refine for_rule (fun i ρ h'=>i≤xs.length∧h'=h∧ρ 0= .sl id off xs.length c∧ρ 1= .sl id' off' xs.length c'∧ρ 5= .int .i64 (i:Int)) xs.length ⟨by omega,rfl,rfl,rfl,rfl⟩ (fun i ρ h hI=>hI.1) ?_
 rintro i ρ h' ⟨hi,rfl,q0,q1,q5⟩
 rcases Nat.lt_or_ge i xs.length with hlt|hge
 ·obtain⟨j,rfl,_,hg⟩:=hv.at hlt
  obtain⟨j2,rfl,_,hg2⟩:=hu.at hlt
  simp only[go_sem,q0,q1,q5,ltT hlt]
  refine⟨by omega,by omega, ?_⟩
  simp only[go_sem,hg,q1,q5]
  refine⟨by omega,by omega, ?_⟩
  simp only[go_sem,hg2,neF (show((xs[i]:Nat):Int)=(xs[i]:Nat) from rfl),q5,incI (i:=i) (by omega)]
  exact⟨by omega,by first|rfl|trivial|assumption,by first|rfl|trivial|assumption,by first|rfl|trivial|assumption,by first|rfl|trivial|assumption⟩
 ·simp only[go_sem,q0,q1,q5,ltF hge]
  exact fun _=>hk
section
open Go
def c_modw_Mod_P:AC:= .seq (.reg [o 2 (.mv (u64 0))]) (.seq (.reg [mv 3 0,o 4 (.nn (.t 3)),o 5 (.fld 0 (.t 4)),o 6 (.ld none (.t 5)),mv 2 6]) .ret)
theorem in_modw_Mod_P:Ent 11 7 c_modw_Mod_P [.t 2]:=ent Tryd.func11 rfl rfl rfl (show compile _ 7 _=_ by kernel_rfl) (show compRes _ 7 _=_ by kernel_rfl)
def c_modw_Mod_Mul:AC:= .seq (.reg [o 6 (.mv (u64 0))]) (.seq (.reg [mv 7 0,mv 8 1,mv 9 0,o 10 (.nn (.t 9)),o 11 (.fld 0 (.t 10)),o 12 (.ld none (.t 11)),bn 13 .rem 8 12,mv 14 2,mv 15 0,o 16 (.nn (.t 15)),o 17 (.fld 0 (.t 16)),o 18 (.ld none (.t 17)),bn 19 .rem 14 18,o 20 (.call 64 [.t 7, .t 13, .t 19]),mv 6 20]) .ret)
theorem in_modw_Mod_Mul:Ent 44 21 c_modw_Mod_Mul [.t 6]:=ent Tryd.func44 rfl rfl rfl (show compile _ 21 _=_ by kernel_rfl) (show compRes _ 21 _=_ by kernel_rfl)
def c_modw_Mod_Add:AC:= .seq (.reg [o 6 (.mv (u64 0))]) (.seq (.reg [mv 7 0,mv 8 1,mv 9 0,o 10 (.nn (.t 9)),o 11 (.fld 0 (.t 10)),o 12 (.ld none (.t 11)),bn 13 .rem 8 12,mv 14 2,mv 15 0,o 16 (.nn (.t 15)),o 17 (.fld 0 (.t 16)),o 18 (.ld none (.t 17)),bn 19 .rem 14 18,o 20 (.call 68 [.t 7, .t 13, .t 19]),mv 6 20]) .ret)
theorem in_modw_Mod_Add:Ent 49 21 c_modw_Mod_Add [.t 6]:=ent Tryd.func49 rfl rfl rfl (show compile _ 21 _=_ by kernel_rfl) (show compRes _ 21 _=_ by kernel_rfl)
def c_modw_Mod_Neg:AC:= .seq (.reg [o 4 (.mv (u64 0))]) (.seq (.reg [mv 5 0,mv 6 1,mv 7 0,o 8 (.nn (.t 7)),o 9 (.fld 0 (.t 8)),o 10 (.ld none (.t 9)),bn 11 .rem 6 10,o 12 (.call 69 [.t 5,u64 0, .t 11]),mv 4 12]) .ret)
theorem in_modw_Mod_Neg:Ent 52 13 c_modw_Mod_Neg [.t 4]:=ent Tryd.func52 rfl rfl rfl (show compile _ 13 _=_ by kernel_rfl) (show compRes _ 13 _=_ by kernel_rfl)
def c_modw_Mod_Inv:AC:= .seq (.reg [o 4 (.mv (u64 0)),o 5 (.mv (.c (.bool false)))]) (.seq (.reg [mv 11 0,o 12 (.nn (.t 11)),o 13 (.fld 0 (.t 12)),o 14 (.ld none (.t 13)),mv 15 1,mv 16 0,o 17 (.nn (.t 16)),o 18 (.fld 0 (.t 17)),o 19 (.ld none (.t 18)),bn 20 .rem 15 19,mv 6 14,mv 7 20]) (.seq (.reg [o 8 (.mv (u64 0)),o 9 (.mv (u64 1))]) (.seq (.block 0 (.loop (.seq (.seq (.reg [mv 21 7,o 22 (.bin .gtr (.t 21) (u64 0))]) (.cond (.t 22) .skip (.exit 0))) (.block 1 (.seq (.reg [mv 23 6,mv 24 7,bn 25 .quo 23 24,mv 10 25]) (.seq (.reg [mv 26 7,mv 27 6,mv 28 10,mv 29 7,bn 30 .mul 28 29,bn 31 .sub 27 30,mv 6 26,mv 7 31]) (.reg [mv 32 9,mv 33 0,mv 34 8,mv 35 0,mv 36 10,mv 37 0,o 38 (.nn (.t 37)),o 39 (.fld 0 (.t 38)),o 40 (.ld none (.t 39)),bn 41 .rem 36 40,mv 42 9,o 43 (.call 64 [.t 35, .t 41, .t 42]),o 44 (.call 69 [.t 33, .t 34, .t 43]),mv 8 32,mv 9 44]))))))) (.seq (.seq (.reg [mv 45 6,o 46 (.bin .neq (.t 45) (u64 1))]) (.cond (.t 46) (.seq (.reg [o 4 (.mv (u64 0)),o 5 (.mv (.c (.bool false)))]) .ret) .skip)) (.seq (.reg [mv 47 8,mv 4 47,o 5 (.mv (.c (.bool true)))]) .ret)))))
theorem in_modw_Mod_Inv:Ent 57 48 c_modw_Mod_Inv [.t 4, .t 5]:=ent Tryd.func57 rfl rfl rfl (show compile _ 48 _=_ by kernel_rfl) (show compRes _ 48 _=_ by kernel_rfl)
def c_modw_Mod_Sub:AC:= .seq (.reg [o 6 (.mv (u64 0))]) (.seq (.reg [mv 7 0,mv 8 1,mv 9 0,o 10 (.nn (.t 9)),o 11 (.fld 0 (.t 10)),o 12 (.ld none (.t 11)),bn 13 .rem 8 12,mv 14 2,mv 15 0,o 16 (.nn (.t 15)),o 17 (.fld 0 (.t 16)),o 18 (.ld none (.t 17)),bn 19 .rem 14 18,o 20 (.call 69 [.t 7, .t 13, .t 19]),mv 6 20]) .ret)
theorem in_modw_Mod_Sub:Ent 60 21 c_modw_Mod_Sub [.t 6]:=ent Tryd.func60 rfl rfl rfl (show compile _ 21 _=_ by kernel_rfl) (show compRes _ 21 _=_ by kernel_rfl)
def c_modw_Mod_Red:AC:= .seq (.reg [o 4 (.mv (u64 0))]) (.seq (.reg [mv 5 1,mv 6 0,o 7 (.nn (.t 6)),o 8 (.fld 0 (.t 7)),o 9 (.ld none (.t 8)),bn 10 .rem 5 9,mv 4 10]) .ret)
theorem in_modw_Mod_Red:Ent 62 11 c_modw_Mod_Red [.t 4]:=ent Tryd.func62 rfl rfl rfl (show compile _ 11 _=_ by kernel_rfl) (show compRes _ 11 _=_ by kernel_rfl)
def c_modw_Mod_mul:AC:= .seq (.reg [o 6 (.mv (u64 0))]) (.seq (.reg [mv 12 1,mv 13 2,o 14 (.call 70 [.t 12, .t 13]),mv 11 14,o 15 (.ext (.t 11) 0),o 16 (.ext (.t 11) 1),mv 7 15,mv 8 16]) (.seq (.reg [mv 18 7,mv 19 8,mv 20 0,o 21 (.nn (.t 20)),o 22 (.fld 0 (.t 21)),o 23 (.ld none (.t 22)),o 24 (.call 71 [.t 18, .t 19, .t 23]),mv 17 24,o 25 (.ext (.t 17) 0),o 26 (.ext (.t 17) 1),mv 9 25,mv 10 26]) (.seq (.reg [mv 27 10,mv 6 27]) .ret)))
theorem in_modw_Mod_mul:Ent 64 28 c_modw_Mod_mul [.t 6]:=ent Tryd.func64 rfl rfl rfl (show compile _ 28 _=_ by kernel_rfl) (show compRes _ 28 _=_ by kernel_rfl)
def c_modw_New:AC:= .seq (.reg [o 2 (.mv (.c (.ptr none))),o 3 (.mv (i64 0))]) (.seq (.seq (.reg [mv 6 0,o 7 (.bin .lss (.t 6) (u64 3)),mv 8 7,og 9 8 false (.mv (.t 0)),og 10 8 false (.bin .rem (.t 9) (u64 2)),og 11 8 false (.bin .eql (.t 10) (u64 0)),o 12 (.pick (.t 8) (.c (.bool true)) (.t 11)),mv 13 12,og 14 13 false (.mv (.t 0)),og 15 13 false (.bin .geq (.t 14) (u64 4611686018427387904)),o 16 (.pick (.t 13) (.c (.bool true)) (.t 15))]) (.cond (.t 16) (.seq (.reg [o 2 (.mv (.c (.ptr none))),o 3 (.mv (i64 3))]) .ret) .skip)) (.seq (.reg [mv 17 0,mv 4 17]) (.seq (.seq (.reg [o 18 (.mv (i64 0))]) (.block 0 (.loop (.seq (.reg [o 19 (.bin .lss (.t 18) (i64 6))]) (.seq (.cond (.t 19) .skip (.exit 0)) (.seq (.block 1 (.reg [mv 20 4,mv 21 0,mv 22 4,bn 23 .mul 21 22,o 24 (.bin .sub (u64 2) (.t 23)),bn 25 .mul 20 24,mv 4 25])) (.reg [o 26 (.bin .add (.t 18) (i64 1)),mv 18 26]))))))) (.seq (.reg [mv 27 0,mv 28 4,o 29 (.un .neg (.t 28)),o 30 (.bld [.int .u64 0, .int .u64 0, .int .u64 0, .int .u64 0] [(0,1, .t 27),(1,1, .t 29)]),o 31 (.box 62 (.t 30)),mv 5 31]) (.seq (.reg [mv 33 5,mv 34 0,o 35 (.call 71 [u64 1,u64 0, .t 34]),mv 32 35,o 36 (.ext (.t 32) 0),o 37 (.ext (.t 32) 1),o 38 (.nn (.t 33)),o 39 (.fld 2 (.t 38)),od (.st 1 (.t 39) (.t 37))]) (.seq (.reg [mv 40 5,mv 41 5,mv 42 5,o 43 (.nn (.t 42)),o 44 (.fld 2 (.t 43)),o 45 (.ld none (.t 44)),mv 46 5,o 47 (.nn (.t 46)),o 48 (.fld 2 (.t 47)),o 49 (.ld none (.t 48)),o 50 (.call 64 [.t 41, .t 45, .t 49]),o 51 (.nn (.t 40)),o 52 (.fld 3 (.t 51)),od (.st 1 (.t 52) (.t 50))]) (.seq (.reg [mv 53 5,mv 2 53,o 3 (.mv (i64 0))]) .ret)))))))
theorem in_modw_New:Ent 66 54 c_modw_New [.t 2, .t 3]:=ent Tryd.func66 rfl rfl rfl (show compile _ 54 _=_ by kernel_rfl) (show compRes _ 54 _=_ by kernel_rfl)
def c_modw_Mod_add:AC:= .seq (.reg [o 6 (.mv (u64 0))]) (.seq (.reg [mv 8 1,mv 9 2,bn 10 .add 8 9,mv 7 10]) (.seq (.seq (.reg [mv 11 7,mv 12 0,o 13 (.nn (.t 12)),o 14 (.fld 0 (.t 13)),o 15 (.ld none (.t 14)),bn 16 .geq 11 15]) (.cond (.t 16) (.reg [mv 17 7,mv 18 0,o 19 (.nn (.t 18)),o 20 (.fld 0 (.t 19)),o 21 (.ld none (.t 20)),bn 22 .sub 17 21,mv 7 22]) .skip)) (.seq (.reg [mv 23 7,mv 6 23]) .ret)))
theorem in_modw_Mod_add:Ent 68 24 c_modw_Mod_add [.t 6]:=ent Tryd.func68 rfl rfl rfl (show compile _ 24 _=_ by kernel_rfl) (show compRes _ 24 _=_ by kernel_rfl)
def c_modw_Mod_sub:AC:= .seq (.reg [o 6 (.mv (u64 0))]) (.seq (.seq (.reg [mv 7 1,mv 8 2,bn 9 .geq 7 8]) (.cond (.t 9) (.seq (.reg [mv 10 1,mv 11 2,bn 12 .sub 10 11,mv 6 12]) .ret) .skip)) (.seq (.reg [mv 13 1,mv 14 0,o 15 (.nn (.t 14)),o 16 (.fld 0 (.t 15)),o 17 (.ld none (.t 16)),bn 18 .add 13 17,mv 19 2,bn 20 .sub 18 19,mv 6 20]) .ret))
theorem in_modw_Mod_sub:Ent 69 21 c_modw_Mod_sub [.t 6]:=ent Tryd.func69 rfl rfl rfl (show compile _ 21 _=_ by kernel_rfl) (show compRes _ 21 _=_ by kernel_rfl)
def c_prime_Mod:AC:= .seq (.reg [o 2 (.mv (.c (.ptr none))),o 3 (.mv (i64 0))]) (.seq (.seq (.reg [mv 4 0,o 5 (.bin .rem (.t 4) (u64 2)),o 6 (.bin .eql (.t 5) (u64 0)),mv 7 6,og 8 7 false (.mv (.t 0)),og 9 7 false (.bin .geq (.t 8) (u64 4611686018427387904)),o 10 (.pick (.t 7) (.c (.bool true)) (.t 9)),mv 11 10,og 12 11 false (.mv (.t 0)),og 13 11 false (.call 65 [.t 12]),og 14 11 false (.un .not (.t 13)),o 15 (.pick (.t 11) (.c (.bool true)) (.t 14))]) (.cond (.t 15) (.seq (.reg [o 2 (.mv (.c (.ptr none))),o 3 (.mv (i64 3))]) .ret) .skip)) (.seq (.reg [mv 16 0,o 17 (.call 66 [.t 16]),o 18 (.ext (.t 17) 0),o 19 (.ext (.t 17) 1),mv 2 18,mv 3 19]) .ret))
theorem in_prime_Mod:Ent 46 20 c_prime_Mod [.t 2, .t 3]:=ent Tryd.func46 rfl rfl rfl (show compile _ 20 _=_ by kernel_rfl) (show compRes _ 20 _=_ by kernel_rfl)
def c_prime_Is:AC:= .seq (.reg [o 2 (.mv (.c (.bool false)))]) (.seq (.seq (.reg [mv 10 0,o 11 (.bin .lss (.t 10) (u64 2))]) (.cond (.t 11) (.seq (.reg [o 2 (.mv (.c (.bool false)))]) .ret) .skip)) (.seq (.reg [o 12 (.bld [.int .u64 0, .int .u64 0, .int .u64 0, .int .u64 0, .int .u64 0, .int .u64 0, .int .u64 0, .int .u64 0, .int .u64 0, .int .u64 0, .int .u64 0, .int .u64 0] [(0,1,u64 2),(1,1,u64 3),(2,1,u64 5),(3,1,u64 7),(4,1,u64 11),(5,1,u64 13),(6,1,u64 17),(7,1,u64 19),(8,1,u64 23),(9,1,u64 29),(10,1,u64 31),(11,1,u64 37)]),o 3 (.alloc 76 [.int .u64 0, .int .u64 0, .int .u64 0, .int .u64 0, .int .u64 0, .int .u64 0, .int .u64 0, .int .u64 0, .int .u64 0, .int .u64 0, .int .u64 0, .int .u64 0]),od (.st 12 (.t 3) (.t 12))]) (.seq (.seq (.reg [o 13 (.ld (some 12) (.t 3)),o 14 (.mv (i64 0))]) (.block 0 (.loop (.seq (.reg [o 15 (.bin .lss (.t 14) (i64 12))]) (.seq (.cond (.t 15) .skip (.exit 0)) (.seq (.block 1 (.seq (.reg [o 16 (.idxV none 12 1 (.t 13) (.t 14)),mv 5 16]) (.seq (.reg [mv 17 0,mv 18 5,bn 19 .rem 17 18,o 20 (.bin .eql (.t 19) (u64 0))]) (.cond (.t 20) (.seq (.reg [mv 21 0,mv 22 5,bn 23 .eql 21 22,mv 2 23]) .ret) .skip)))) (.reg [o 24 (.bin .add (.t 14) (i64 1)),mv 14 24]))))))) (.seq (.reg [mv 25 0,o 26 (.bin .sub (.t 25) (u64 1)),o 27 (.call 73 [.t 26]),mv 6 27]) (.seq (.reg [mv 28 0,o 29 (.bin .sub (.t 28) (u64 1)),mv 30 6,o 31 (.cvI .u64 (.t 30)),bn 32 .shr 29 31,mv 7 32]) (.seq (.seq (.reg [o 33 (.ld (some 12) (.t 3)),o 34 (.mv (i64 0))]) (.block 2 (.loop (.seq (.reg [o 35 (.bin .lss (.t 34) (i64 12))]) (.seq (.cond (.t 35) .skip (.exit 2)) (.seq (.block 3 (.seq (.reg [o 36 (.idxV none 12 1 (.t 33) (.t 34)),mv 9 36]) (.seq (.reg [mv 37 9,mv 38 0,mv 39 7,mv 40 6,o 41 (.call 74 [.t 37, .t 38, .t 39, .t 40])]) (.cond (.t 41) (.seq (.reg [o 2 (.mv (.c (.bool false)))]) .ret) .skip)))) (.reg [o 42 (.bin .add (.t 34) (i64 1)),mv 34 42]))))))) (.seq (.reg [o 2 (.mv (.c (.bool true)))]) .ret)))))))
theorem in_prime_Is:Ent 65 43 c_prime_Is [.t 2]:=ent Tryd.func65 rfl rfl rfl (show compile _ 43 _=_ by kernel_rfl) (show compRes _ 43 _=_ by kernel_rfl)
def c_prime_witness:AC:= .seq (.reg [o 8 (.mv (.c (.bool false)))]) (.seq (.reg [mv 10 0,mv 11 1,bn 12 .rem 10 11,mv 13 2,mv 14 1,o 15 (.call 77 [.t 12, .t 13, .t 14]),mv 9 15]) (.seq (.seq (.reg [mv 16 9,o 17 (.bin .eql (.t 16) (u64 0)),mv 18 17,og 19 18 false (.mv (.t 9)),og 20 18 false (.bin .eql (.t 19) (u64 1)),o 21 (.pick (.t 18) (.c (.bool true)) (.t 20)),mv 22 21,og 23 22 false (.mv (.t 9)),og 24 22 false (.mv (.t 1)),og 25 22 false (.bin .sub (.t 24) (u64 1)),og 26 22 false (.bin .eql (.t 23) (.t 25)),o 27 (.pick (.t 22) (.c (.bool true)) (.t 26))]) (.cond (.t 27) (.seq (.reg [o 8 (.mv (.c (.bool false)))]) .ret) .skip)) (.seq (.seq (.reg [mv 28 3,o 29 (.bin .sub (.t 28) (i64 1)),o 30 (.mv (i64 0))]) (.block 0 (.loop (.seq (.reg [bn 31 .lss 30 29]) (.seq (.cond (.t 31) .skip (.exit 0)) (.seq (.block 1 (.seq (.reg [mv 32 9,mv 33 9,mv 34 1,o 35 (.call 78 [.t 32, .t 33, .t 34]),mv 9 35]) (.seq (.reg [mv 36 9,mv 37 1,o 38 (.bin .sub (.t 37) (u64 1)),bn 39 .eql 36 38]) (.cond (.t 39) (.seq (.reg [o 8 (.mv (.c (.bool false)))]) .ret) .skip)))) (.reg [o 40 (.bin .add (.t 30) (i64 1)),mv 30 40]))))))) (.seq (.reg [o 8 (.mv (.c (.bool true)))]) .ret))))
theorem in_prime_witness:Ent 74 41 c_prime_witness [.t 8]:=ent Tryd.func74 rfl rfl rfl (show compile _ 41 _=_ by kernel_rfl) (show compRes _ 41 _=_ by kernel_rfl)
def c_prime_pow:AC:= .seq (.reg [o 6 (.mv (u64 0))]) (.seq (.reg [mv 8 2,o 9 (.bin .rem (u64 1) (.t 8)),mv 7 9]) (.seq (.block 0 (.loop (.seq (.seq (.reg [mv 10 1,o 11 (.bin .gtr (.t 10) (u64 0))]) (.cond (.t 11) .skip (.exit 0))) (.block 1 (.seq (.seq (.reg [mv 12 1,o 13 (.bin .rem (.t 12) (u64 2)),o 14 (.bin .eql (.t 13) (u64 1))]) (.cond (.t 14) (.reg [mv 15 7,mv 16 0,mv 17 2,o 18 (.call 78 [.t 15, .t 16, .t 17]),mv 7 18]) .skip)) (.seq (.reg [mv 19 0,mv 20 0,mv 21 2,o 22 (.call 78 [.t 19, .t 20, .t 21]),mv 0 22]) (.reg [mv 23 1,o 24 (.bin .quo (.t 23) (u64 2)),mv 1 24]))))))) (.seq (.reg [mv 25 7,mv 6 25]) .ret)))
theorem in_prime_pow:Ent 77 26 c_prime_pow [.t 6]:=ent Tryd.func77 rfl rfl rfl (show compile _ 26 _=_ by kernel_rfl) (show compRes _ 26 _=_ by kernel_rfl)
def c_prime_mul:AC:= .seq (.reg [o 6 (.mv (u64 0))]) (.seq (.reg [mv 12 0,mv 13 1,o 14 (.call 70 [.t 12, .t 13]),mv 11 14,o 15 (.ext (.t 11) 0),o 16 (.ext (.t 11) 1),mv 7 15,mv 8 16]) (.seq (.reg [mv 18 7,mv 19 8,mv 20 2,o 21 (.call 71 [.t 18, .t 19, .t 20]),mv 17 21,o 22 (.ext (.t 17) 0),o 23 (.ext (.t 17) 1),mv 9 22,mv 10 23]) (.seq (.reg [mv 24 10,mv 6 24]) .ret)))
theorem in_prime_mul:Ent 78 25 c_prime_mul [.t 6]:=ent Tryd.func78 rfl rfl rfl (show compile _ 25 _=_ by kernel_rfl) (show compRes _ 25 _=_ by kernel_rfl)
end
section
def MW (h:H) (i p:Nat):Prop:=∃ng,h.rows i=some ⟨some 62,4,[.int .u64 (p:Int), .int .u64 (ng:Nat), .int .u64 (18446744073709551616%p:Nat), .int .u64 (18446744073709551616*18446744073709551616%p:Nat)]⟩∧ng<18446744073709551616∧(ng*p+1)%18446744073709551616=0∧3≤p∧p<4611686018427387904
theorem MW.mono {h h':H} {i p:Nat} (hm:MW h i p) (hl:h.le h'):MW h' i p:=by
 obtain⟨ng,h1,h2⟩:=hm
 exact⟨ng,hl.2 _ _ h1,h2⟩
theorem MW.p0 {h:H} {i p:Nat} (hm:MW h i p):3≤p∧p<4611686018427387904:=by
 obtain⟨ng,h1,h2,h3,h4⟩:=hm
 exact h4
theorem MW.pos {h:H} {i p:Nat} (hm:MW h i p):0<p:=by have:=hm.p0;omega
theorem MW.ltB {h:H} {i p:Nat} (hm:MW h i p):p<18446744073709551616:=by have:=hm.p0;omega
theorem MW.get {h:H} {i p:Nat} (hm:MW h i p):h.get i 0=some (.int .u64 (p:Int))∧h.get i 2=some (.int .u64 (18446744073709551616%p:Nat))∧h.get i 3=some (.int .u64 (18446744073709551616*18446744073709551616%p:Nat)):=by
 obtain⟨ng,h1,_⟩:=hm
 rw[H.get_of h1,H.get_of h1,H.get_of h1]
 exact⟨rfl,rfl,rfl⟩
section
variable {p i a b:Nat} {h:H} {K:AV→H→Prop}
theorem mP_calls (hm:MW h i p) (hk:K (.int .u64 (p:Int)) h):ACalls Tryd.prog 11 [.ptr (some (i,0))] h K:=by
 refine in_modw_Mod_P (by simp) fun hw=> ?_
 unfold c_modw_Mod_P
 simp only[go_sem,hm.get.1]
 exact fun _=>hk
theorem mRed_calls (hm:MW h i p) (hk:K (.int .u64 (a%p:Nat)) h):ACalls Tryd.prog 62 [.ptr (some (i,0)), .int .u64 (a:Int)] h K:=by
 refine in_modw_Mod_Red (by simp) fun hw=> ?_
 unfold c_modw_Mod_Red
 have:=hm.p0
 simp only[go_sem,hm.get.1,tmodN]
 exact⟨by omega,fun _=>hk⟩
theorem madd_calls (hm:MW h i p) (ha:a<p) (hb:b<p) (hk:K (.int .u64 ((a+b)%p:Nat)) h):ACalls Tryd.prog 68 [.ptr (some (i,0)), .int .u64 (a:Int), .int .u64 (b:Int)] h K:=by
 refine in_modw_Mod_add (by simp) fun hw=> ?_
 unfold c_modw_Mod_add
 have:=hm.p0
 have e:=addU (a:=a) (b:=b) (by omega)
 rcases Nat.lt_or_ge (a+b) p with h1|h1
 ·rw[Nat.mod_eq_of_lt h1] at hk
  simp only[go_sem,hm.get.1,e,leF h1]
  exact fun _=>hk
 ·have e2:(a+b)%p=a+b-p:=by rw[Nat.mod_eq_sub_mod h1,Nat.mod_eq_of_lt (by omega)]
  rw[e2] at hk
  simp only[go_sem,hm.get.1,e,leT h1,subN h1 (by omega)]
  exact fun _=>hk
theorem msub_calls (hm:MW h i p) (ha:a<p) (hb:b<p) (hk:K (.int .u64 ((a+p-b)%p:Nat)) h):ACalls Tryd.prog 69 [.ptr (some (i,0)), .int .u64 (a:Int), .int .u64 (b:Int)] h K:=by
 refine in_modw_Mod_sub (by simp) fun hw=> ?_
 unfold c_modw_Mod_sub
 have:=hm.p0
 rcases Nat.lt_or_ge a b with h1|h1
 ·rw[Nat.mod_eq_of_lt (by omega)] at hk
  simp only[go_sem,hm.get.1,leF h1,addU (a:=a) (b:=p) (by omega),subN (a:=a+p) (b:=b) (by omega) (by omega)]
  exact fun _=>hk
 ·have e2:(a+p-b)%p=a-b:=by rw[show a+p-b=(a-b)+p by omega,Nat.add_mod_right,Nat.mod_eq_of_lt (by omega)]
  rw[e2] at hk
  simp only[go_sem,leT h1,subN h1 (by omega)]
  exact fun _=>hk
theorem mmul0_calls (hg:h.get i 0=some (.int .u64 (p:Int))) (hp:0<p∧p<18446744073709551616) (ha:a<p) (hb:b<18446744073709551616) (hk:K (.int .u64 (a*b%p:Nat)) h):ACalls Tryd.prog 64 [.ptr (some (i,0)), .int .u64 (a:Int), .int .u64 (b:Int)] h K:=by
 refine in_modw_Mod_mul (by simp) fun hw=> ?_
 unfold c_modw_Mod_mul
 simp only[go_sem]
 refine Mul64_calls (by omega) hb ?_
 simp only[go_sem,hg]
 have hlt:a*b/18446744073709551616<p:=by
  rw[Nat.div_lt_iff_lt_mul (by omega)]
  exact Nat.mul_lt_mul_of_lt_of_le ha (Nat.le_of_lt hb) (by omega)
 have e:a*b/18446744073709551616*18446744073709551616+a*b%18446744073709551616=a*b:=by omega
 refine Div64_calls hlt (Nat.mod_lt _ (by omega)) (by omega) ?_
 rw[e]
 simp only[go_sem]
 exact fun _=>hk
theorem mmul_calls (hm:MW h i p) (ha:a<p) (hb:b<18446744073709551616) (hk:K (.int .u64 (a*b%p:Nat)) h):ACalls Tryd.prog 64 [.ptr (some (i,0)), .int .u64 (a:Int), .int .u64 (b:Int)] h K:=
 mmul0_calls hm.get.1 ⟨hm.pos,hm.ltB⟩ ha hb hk
theorem mAdd_calls (hm:MW h i p) (hk:K (.int .u64 ((a+b)%p:Nat)) h):ACalls Tryd.prog 49 [.ptr (some (i,0)), .int .u64 (a:Int), .int .u64 (b:Int)] h K:=by
 refine in_modw_Mod_Add (by simp) fun hw=> ?_
 unfold c_modw_Mod_Add
 have:=hm.p0
 simp only[go_sem,hm.get.1,tmodN]
 refine⟨by omega,by omega, ?_⟩
 refine madd_calls hm (Nat.mod_lt _ (by omega)) (Nat.mod_lt _ (by omega)) ?_
 rw[←Nat.add_mod]
 simp only[go_sem]
 exact fun _=>hk
theorem mSub_calls (hm:MW h i p) (hk:K (.int .u64 ((a%p+p-b%p)%p:Nat)) h):ACalls Tryd.prog 60 [.ptr (some (i,0)), .int .u64 (a:Int), .int .u64 (b:Int)] h K:=by
 refine in_modw_Mod_Sub (by simp) fun hw=> ?_
 unfold c_modw_Mod_Sub
 have:=hm.p0
 simp only[go_sem,hm.get.1,tmodN]
 refine⟨by omega,by omega, ?_⟩
 refine msub_calls hm (Nat.mod_lt _ (by omega)) (Nat.mod_lt _ (by omega)) ?_
 simp only[go_sem]
 exact fun _=>hk
theorem mMul_calls (hm:MW h i p) (hk:K (.int .u64 (a*b%p:Nat)) h):ACalls Tryd.prog 44 [.ptr (some (i,0)), .int .u64 (a:Int), .int .u64 (b:Int)] h K:=by
 refine in_modw_Mod_Mul (by simp) fun hw=> ?_
 unfold c_modw_Mod_Mul
 have:=hm.p0
 simp only[go_sem,hm.get.1,tmodN]
 refine⟨by omega,by omega, ?_⟩
 have hb:=Nat.mod_lt b (show 0<p by omega)
 refine mmul_calls hm (Nat.mod_lt _ (by omega)) (by omega) ?_
 rw[←Nat.mul_mod]
 simp only[go_sem]
 exact fun _=>hk
end
end
section
section
variable {p i a b:Nat} {h:H} {K:AV→H→Prop}
theorem mInv_calls (hm:MW h i p) (hk:∀x,x<p→(Nat.gcd p (a%p)=1→(a*x)%p=1)→K (.tup [.int .u64 (if Nat.gcd p (a%p)=1 then x else 0:Nat), .bool (decide (Nat.gcd p (a%p)=1))]) h):ACalls Tryd.prog 57 [.ptr (some (i,0)), .int .u64 (a:Int)] h K:=by
 refine in_modw_Mod_Inv (by simp) fun hw=> ?_
 unfold c_modw_Mod_Inv
 have hp:=hm.p0
 have hap:=Nat.mod_lt a (show 0<p by omega)
 simp only[go_sem,hm.get.1,tmodN]
 refine⟨by omega, ?_⟩
 refine⟨fun s ρ h'=>h'=h∧ρ 0= .ptr (some (i,0))∧ρ 7= .int .u64 (s:Int)∧s<p∧∃r x y:Nat,ρ 6= .int .u64 (r:Int)∧ρ 8= .int .u64 (x:Int)∧ρ 9= .int .u64 (y:Int)∧r≤p∧x<p∧y<p∧Nat.gcd r s=Nat.gcd p (a%p)∧(a*x)%p=r%p∧(a*y)%p=s%p,a%p,
  ⟨rfl,rfl,rfl,hap,p,0,1,rfl,rfl,rfl,by omega,by omega,by omega,rfl,by simp,by simp⟩, ?_⟩
 rintro s ρ h' ⟨rfl,q0,q7,hsp,r,x,y,q6,q8,q9,hr,hx,hy,hg,hax,hay⟩
 rcases Nat.eq_zero_or_pos s with rfl|hpos
 ·rw[Nat.gcd_zero_right] at hg
  have hk:=hk x hx
  subst hg
  obtain⟨G,hG⟩:∃G,G=Nat.gcd p (a%p):=⟨_,rfl⟩
  by_cases h1:Nat.gcd p (a%p)=1
  ·simp only[go_sem,q0,q7,q6,q8,q9,show decide ((0:Int)<((0:Nat):Int))=false from rfl,neF (show((Nat.gcd p (a%p):Nat):Int)=1 by rw[h1];rfl)]
   have hk:=hk (fun _=>by rw[hax,h1,Nat.mod_eq_of_lt (by omega)])
   rw[if_pos h1,decide_eq_true h1] at hk
   exact fun _=>hk
  ·simp only[go_sem,q0,q7,q6,q8,q9,show decide ((0:Int)<((0:Nat):Int))=false from rfl,neT (show((Nat.gcd p (a%p):Nat):Int)≠1 from fun e=>h1 (by exact_mod_cast e))]
   have hk:=hk (fun h=>absurd h h1)
   rw[if_neg h1,decide_eq_false h1] at hk
   exact fun _=>hk
 ·have hc:decide ((0:Int)<(s:Int))=true:=decide_eq_true (by omega)
  have hdm:=Nat.div_add_mod r s
  have hms:=Nat.mod_lt r hpos
  have hqr:r/s≤r:=Nat.div_le_self _ _
  have hgg:Nat.gcd s (r%s)=Nat.gcd p (a%p):=by rw[←hg,Nat.gcd_comm r s,Nat.gcd_rec s r,Nat.gcd_comm]
  have etd:(r:Int).tdiv (s:Int)=((r/s:Nat):Int):=tdivN
  generalize r/s=q at*
  generalize r%s=r' at*
  have e1:IntKind.u64.wrap ((q:Int))=(q:Int):=by rw[wU]<;>omega
  have hqs:q*s=r-r':=by rw[Nat.mul_comm];omega
  have e2:IntKind.u64.wrap ((q:Int)*(s:Int))=((r-r':Nat):Int):=by rw[←Int.natCast_mul,hqs,wU]<;>omega
  have e3:=subN (a:=r) (b:=r-r') (by omega) (by omega)
  rw[show r-(r-r')=r' by omega] at e3
  simp only[go_sem,q0,q7,q6,q8,q9,hc,etd,e1,e2,e3]
  refine⟨by omega, ?_⟩
  simp only[go_sem,q0,q7,q6,q8,q9,hm.get.1,tmodN]
  refine⟨by omega, ?_⟩
  refine mmul_calls hm (Nat.mod_lt _ (by omega)) (by omega) ?_
  simp only[go_sem,q0,q8]
  refine msub_calls hm hx (Nat.mod_lt _ (by omega)) ?_
  simp only[go_sem,q0,q7,q6,q8,q9]
  refine⟨r',hms,by first|rfl|trivial|assumption,by first|rfl|trivial|assumption,by first|rfl|trivial|assumption,by omega,s,y,_,rfl,rfl,rfl,by omega,hy,Nat.mod_lt _ (by omega),hgg,hay, ?_⟩
  --the new factor
  have hne:NeZero p:=⟨by omega⟩
  have z1:zp p a*zp p x=zp p r:=by rw[←zp_mul];exact zp_iff.2 hax
  have z2:zp p a*zp p y=zp p s:=by rw[←zp_mul];exact zp_iff.2 hay
  have z3:zp p r=zp p s*zp p q+zp p r':=by rw[←zp_mul,←zp_add,hdm]
  refine zp_iff.1 ?_
  have hm2:q%p*y%p≤x+p:=by have:=Nat.mod_lt (q%p*y) (show 0<p by omega);omega
  rw[zp_mul,zp_mod,zp_sub hm2,zp_add,zp_self,zp_mod,zp_mul,zp_mod]
  grind
end
end
theorem newton_step {p inv:Nat} {e:Int} (h:∃t v:Int,1-(p:Int)*inv=e*t+18446744073709551616*v):
  ∃inv':Nat,inv'<18446744073709551616∧IntKind.u64.wrap ((inv:Int)*IntKind.u64.wrap (2-IntKind.u64.wrap ((p:Int)*(inv:Int))))=(inv':Int)∧∃t v:Int,1-(p:Int)*inv'=e*e*t+18446744073709551616*v:=by
 obtain⟨t,v,h⟩:=h
 have e0:IntKind.u64.wrap ((inv:Int)*IntKind.u64.wrap (2-IntKind.u64.wrap ((p:Int)*(inv:Int))))=((inv:Int)*(2-(p:Int)*inv))%18446744073709551616:=by
  rw[wUm,wUm,wUm,Int.mul_emod,Int.emod_emod_of_dvd _ (Int.dvd_refl _),←Int.mul_emod,Int.mul_emod,Int.sub_emod,Int.emod_emod_of_dvd _ (Int.dvd_refl _),←Int.sub_emod,←Int.mul_emod]
 have hd:=Int.emod_add_mul_ediv ((inv:Int)*(2-(p:Int)*inv)) 18446744073709551616
 have h1:=Int.emod_nonneg ((inv:Int)*(2-(p:Int)*inv)) (show(18446744073709551616:Int)≠0 by decide)
 have h2:=Int.emod_lt_of_pos ((inv:Int)*(2-(p:Int)*inv)) (show(0:Int)<18446744073709551616 by decide)
 rw[e0]
 generalize ((inv:Int)*(2-(p:Int)*inv))/18446744073709551616=w at*
 generalize hx:((inv:Int)*(2-(p:Int)*inv))%18446744073709551616=x at*
 refine⟨x.toNat,by omega,by omega,t*t,2*e*t*v+18446744073709551616*v*v+p*w, ?_⟩
 rw[Int.toNat_of_nonneg h1]
 have hx2:x=(inv:Int)*(2-(p:Int)*inv)-18446744073709551616*w:=by omega
 rw[hx2]
 have hp:(p:Int)*inv=1-(e*t+18446744073709551616*v):=by omega
 generalize (18446744073709551616:Int)=B at*
 grind
theorem newton_start {p:Nat} (ho:p%2=1):∃t v:Int,1-(p:Int)*p=8*t+18446744073709551616*v:=by
 have h8:((p:Int)*p)%8=1:=by
  rw[Int.mul_emod]
  have:(p:Int)%8=1∨(p:Int)%8=3∨(p:Int)%8=5∨(p:Int)%8=7:=by omega
  rcases this with h|h|h|h<;>rw[h]<;>rfl
 generalize (p:Int)*p=y at*
 exact⟨(1-y)/8,0,by omega⟩
theorem newton_end {p inv:Nat} (hi:inv<18446744073709551616) (h:∃t v:Int,1-(p:Int)*inv=8^64*t+18446744073709551616*v):∃ng:Nat,ng<18446744073709551616∧IntKind.u64.wrap (0-(inv:Int))=(ng:Int)∧(ng*p+1)%18446744073709551616=0:=by
 obtain⟨t,v,h⟩:=h
 have h8:(8:Int)^64=18446744073709551616*340282366920938463463374607431768211456:=by decide
 rw[h8,Int.mul_assoc,←Int.mul_add] at h
 generalize 340282366920938463463374607431768211456*t+v=s at h
 rcases Nat.eq_zero_or_pos inv with rfl|h0
 ·exfalso
  omega
 refine⟨18446744073709551616-inv,by omega,by rw[wUm];omega, ?_⟩
 have e:(((18446744073709551616-inv)*p+1:Nat):Int)=18446744073709551616*(p+s):=by
  rw[Int.natCast_add,Int.natCast_mul,Int.natCast_sub (Nat.le_of_lt hi),Int.sub_mul,Int.mul_add,←h,Int.mul_comm (inv:Int)]
  omega
 omega
theorem bld4 {a b:AV} (ha:a.cells=[a]) (hb:b.cells=[b]) (h1:a.held=true) (h2:b.held=true):abuild [.int .u64 0, .int .u64 0, .int .u64 0, .int .u64 0] [(0,1,a),(1,1,b)]=some [a,b, .int .u64 0, .int .u64 0]:=by simp[abuild,putAt,ha,hb,h1,h2]
theorem mwNew_calls {p:Nat} {h:H} {K:AV→H→Prop} (hp:3≤p∧p<4611686018427387904) (ho:p%2=1) (hk:∀i h',h'.wf→h.le h'→h.next≤i→MW h' i p→K (.tup [.ptr (some (i,0)), .int .i64 0]) h'):ACalls Tryd.prog 66 [.int .u64 (p:Int)] h K:=by
 refine in_modw_New (by simp) fun hw=> ?_
 unfold c_modw_New
 have e2:((p:Int)).tmod 2=((p%2:Nat):Int):=tmodN (b:=2)
 have c1:decide ((p:Int)<3)=false:=decide_eq_false (by omega)
 have c2:decide (4611686018427387904≤(p:Int))=false:=decide_eq_false (by omega)
 simp only[go_sem,c1,c2,e2,eqF (show((p%2:Nat):Int)≠0 by omega)]
 refine⟨by decide, ?_⟩
 refine⟨fun s ρ h'=>h'=h∧ρ 0= .int .u64 (p:Int)∧s≤6∧ρ 18= .int .i64 ((6-s:Nat):Int)∧∃inv:Nat,ρ 4= .int .u64 (inv:Int)∧inv<18446744073709551616∧∃t v:Int,1-(p:Int)*inv=8^(2^(6-s))*t+18446744073709551616*v,6,
  ⟨rfl,rfl,by omega,rfl,p,rfl,by omega,newton_start ho⟩, ?_⟩
 rintro s ρ h' ⟨rfl,q0,hs,q18,inv,q4,hi,hv⟩
 rcases Nat.eq_zero_or_pos s with rfl|hpos
 ·have c3:decide (((6-0:Nat):Int)<6)=false:=decide_eq_false (by omega)
  obtain⟨ng,hng,hwn,hz⟩:=newton_end hi hv
  simp only[go_sem,q0,q18,q4,c3,hwn]
  rw[bld4 rfl rfl rfl rfl]
  simp only[go_sem]
  simp only[AV.held,AV.cells,List.all_cons,List.all_nil,AV.one,Bool.and_true,List.length_cons,List.length_nil,Nat.zero_add,Nat.reduceAdd,true_and,q0]
  have hl1:=H.le_new hw (H.le_refl h') ⟨some 62,4,[.int .u64 (p:Int), .int .u64 (ng:Nat), .int .u64 0, .int .u64 0]⟩
  have hr1:=H.rows_new h' ⟨some 62,4,[.int .u64 (p:Int), .int .u64 (ng:Nat), .int .u64 0, .int .u64 0]⟩
  generalize hh1:h'.new ⟨some 62,4,[.int .u64 (p:Int), .int .u64 (ng:Nat), .int .u64 0, .int .u64 0]⟩=h1 at*
  refine Div64_calls (hi:=1) (lo:=0) (y:=p) (by omega) (by omega) (by omega) ?_
  rw[Nat.one_mul,Nat.add_zero]
  simp only[go_sem,hr1]
  refine⟨by simp,by simp, ?_⟩
  have pe:∀x y z t:AV,putAt [x,y,z,t] 2 [.int .u64 (18446744073709551616%p:Nat)]=[x,y, .int .u64 (18446744073709551616%p:Nat),t]:=fun _ _ _ _=>rfl
  have pe3:∀x y z t w:AV,putAt [x,y,z,t] 3 [w]=[x,y,z,w]:=fun _ _ _ _ _=>rfl
  simp only[pe]
  have hw1:h1.wf:=by rw[←hh1];exact H.wf_new hw _
  have hl2:=H.le_set (a:=h') hw hl1 (Nat.le_refl _) ⟨some 62,4,[.int .u64 (p:Int), .int .u64 (ng:Nat), .int .u64 (18446744073709551616%p:Nat), .int .u64 0]⟩
  have hr2:=H.rows_set h1 h'.next ⟨some 62,4,[.int .u64 (p:Int), .int .u64 (ng:Nat), .int .u64 (18446744073709551616%p:Nat), .int .u64 0]⟩
  generalize hh2:h1.set h'.next ⟨some 62,4,[.int .u64 (p:Int), .int .u64 (ng:Nat), .int .u64 (18446744073709551616%p:Nat), .int .u64 0]⟩=h2 at*
  have g2:h2.get h'.next 2=some (.int .u64 (18446744073709551616%p:Nat)):=by rw[H.get_of hr2];rfl
  have g0:h2.get h'.next 0=some (.int .u64 (p:Int)):=by rw[H.get_of hr2];rfl
  have hb:18446744073709551616%p<p:=Nat.mod_lt _ (by omega)
  simp only[go_sem,g2]
  refine mmul0_calls g0 (by omega) hb (by omega) ?_
  rw[←Nat.mul_mod]
  simp only[go_sem,hr2]
  simp only[pe3]
  refine⟨by simp,by simp,fun hw3=>hk _ _ hw3 ?_ (Nat.le_refl _) ⟨ng,H.rows_set _ _ _,hng,hz,hp⟩⟩
  exact H.le_set (a:=h') hw hl2 (Nat.le_refl _) _
 ·obtain⟨inv',hi',he,hv'⟩:=newton_step hv
  have c3:decide (((6-s:Nat):Int)<6)=true:=decide_eq_true (by omega)
  have e6:IntKind.i64.wrap (((6-s:Nat):Int)+1)=((6-(s-1):Nat):Int):=by rw[wI]<;>omega
  simp only[go_sem,q0,q18,q4,c3,he,e6]
  refine⟨s-1,by omega,by first|rfl|trivial|assumption,by first|rfl|trivial|assumption,by omega,by first|rfl|trivial|assumption,inv',rfl,hi', ?_⟩
  rw[←Int.pow_add,←Nat.two_mul,←Nat.pow_succ',show(6-s).succ=6-(s-1) by omega] at hv'
  exact hv'
section
theorem band0 {a b:Nat} (ha:a<18446744073709551616) (hb:b<18446744073709551616):bAnd .u64 (a:Int) (b:Int)=((a&&&b:Nat):Int):=bandN ha hb
section
variable {x:Nat} {h:H} {K:AV→H→Prop}
theorem low_and {s m:Nat} (ho:m%2=1) (hx:2^s*m<18446744073709551616):(2^s*m)&&&(18446744073709551616-2^s*m)=2^s:=by
 have h0:0<2^s*m:=Nat.mul_pos (Nat.pow_pos (by decide)) (by omega)
 have e:2^s*m-1=2^s*(m-1)+(2^s-1):=by
  have h1:1≤2^s:=Nat.pow_pos (by decide)
  obtain⟨d,rfl⟩:∃d,m=d+1:=⟨m-1,by omega⟩
  rw[Nat.mul_add,Nat.add_sub_cancel]
  omega
 apply Nat.eq_of_testBit_eq
 intro j
 have hb:18446744073709551616-2^s*m=2^64-(2^s*m-1+1):=by omega
 rw[Nat.testBit_and,hb,Nat.testBit_two_pow_sub_succ (by omega),e,Nat.testBit_two_pow_mul_add _ (Nat.sub_lt (Nat.pow_pos (by decide)) (by decide)),Nat.testBit_two_pow_mul,Nat.testBit_two_pow,Nat.testBit_two_pow_sub_one]
 rcases Nat.lt_trichotomy j s with h1|h1|h1
 ·simp[h1,show¬s≤j by omega,show¬s=j by omega]
 ·subst h1
  have hs:j<64:=by
   rcases Nat.lt_or_ge j 64 with h|h
   ·exact h
   ·have:2^64≤2^j:=Nat.pow_le_pow_right (by decide) h
    have:=Nat.le_mul_of_pos_right (2^j) (show 0<m by omega)
    omega
  simp[Nat.testBit_zero,ho,hs]
  omega
 ·have h2:(m-1).testBit (j-s)=m.testBit (j-s):=by
   obtain⟨d,hd⟩:∃d,j-s=d+1:=⟨j-s-1,by omega⟩
   rw[hd,Nat.testBit_succ,Nat.testBit_succ]
   congr 1
   omega
  simp[show¬j<s by omega,h2,show¬s=j by omega]
  exact fun _ h _=>h
theorem gtab_ok:∀s,s<64→gtab[2^s*285870213051353865%18446744073709551616/2^58]? =some s:=by decide
theorem tz_word {T:Nat}:IntKind.u64.wrap ((T:Int)*285870213051353865)=((T*285870213051353865%18446744073709551616:Nat):Int):=by rw[wUm];omega
theorem tz_lt {y:Nat} (h:y<18446744073709551616):y/2^58<64:=by omega
theorem pow_lt64 {s m:Nat} (ho:m%2=1) (hx:2^s*m<18446744073709551616):s<64:=by
 rcases Nat.lt_or_ge s 64 with h|h
 ·exact h
 ·have:2^64≤2^s:=Nat.pow_le_pow_right (by decide) h
  have:=Nat.le_mul_of_pos_right (2^s) (show 0<m by omega)
  omega
theorem TZ_calls {s m:Nat} (ho:m%2=1) (hx:2^s*m<18446744073709551616) (hk:K (.int .i64 (s:Nat)) h):ACalls Tryd.prog 73 [.int .u64 ((2^s*m:Nat):Int)] h K:=by
 refine in_bits_TrailingZeros64 (by simp) fun hw=> ?_
 unfold c_bits_TrailingZeros64
 have h0:0<2^s*m:=Nat.mul_pos (Nat.pow_pos (by decide)) (by omega)
 have hs:=pow_lt64 ho hx
 have e0:=low_and ho hx
 have hg:=gtab_ok s hs
 generalize 2^s*m=x at*
 generalize 2^s=T at*
 have e1:IntKind.u64.wrap (0-(x:Int))=((18446744073709551616-x:Nat):Int):=by rw[wUm];omega
 have e2:bAnd .u64 (x:Int) ((18446744073709551616-x:Nat):Int)=(T:Int):=by rw[band0 hx (by omega),e0]
 generalize 18446744073709551616-x=nx at*
 have e3:=tz_word (T:=T)
 have hy:T*285870213051353865%18446744073709551616<18446744073709551616:=Nat.mod_lt _ (by decide)
 generalize T*285870213051353865%18446744073709551616=y at*
 have e4:=shrU (x:=y) (n:=58) (by omega)
 have hlt:=tz_lt hy
 generalize y/2^58=t at*
 have hg2:gcell 2 t=some s:=hg
 simp only[go_sem,eqF (show(x:Int)≠0 by omega),e1,e2,e3]
 rw[e4]
 rw[Int.toNat_natCast,hg2]
 simp only[go_sem]
 refine⟨by decide,by omega,by omega,fun _=> ?_⟩
 rw[wI (by omega) (by omega)]
 exact hk
end
end
section
def pwl:Nat→Nat→Nat→Nat→Nat→Nat
 |0,out,_,_,_=>out
 |f+1,out,a,k,n=>if k=0 then out else pwl f (if k%2=1 then out*a%n else out) (a*a%n) (k/2) n
theorem pwl_eq {n:Nat} (hn:0<n):∀(f out a k:Nat),k<2^f→out<n→pwl f out a k n=out*a^k%n
 |0,out,a,k,hk,ho=>by
  have:k=0:=by omega
  subst this
  simp[pwl,Nat.mod_eq_of_lt ho]
 |f+1,out,a,k,hk,ho=>by
  unfold pwl
  by_cases h0:k=0
  ·subst h0
   simp[Nat.mod_eq_of_lt ho]
  rw[if_neg h0,pwl_eq hn f _ _ (k/2) (by omega) (by split;exact Nat.mod_lt _ hn;exact ho)]
  have e:a^k=a^(k%2)*(a*a)^(k/2):=by
   rw[←Nat.pow_two,←Nat.pow_mul,←Nat.pow_add];congr 1;omega
  rw[e]
  rcases Nat.mod_two_eq_zero_or_one k with h|h
  ·rw[if_neg (by omega),h,Nat.pow_zero,Nat.one_mul,Nat.mul_mod,Nat.pow_mod,Nat.mod_mod,←Nat.pow_mod,←Nat.mul_mod]
  ·rw[if_pos h,h,Nat.pow_one,←Nat.mul_assoc,Nat.mul_mod,Nat.mod_mod,Nat.pow_mod,Nat.mod_mod,←Nat.pow_mod,←Nat.mul_mod]
def ps12:List Nat:=[2,3,5,7,11,13,17,19,23,29,31,37]
def smallL:List Nat→Nat→Option Bool
 |[],_=>none
 |p::ps,n=>if n%p=0 then some (decide (n=p)) else smallL ps n
def witL:Nat→Nat→Nat→Bool
 |0,_,_=>true
 |k+1,x,n=>if x*x%n=n-1 then false else witL k (x*x%n) n
def wit (a n d s:Nat):Bool:=if pwl 64 (1%n) (a%n) d n=0∨pwl 64 (1%n) (a%n) d n=1∨pwl 64 (1%n) (a%n) d n=n-1 then false else witL (s-1) (pwl 64 (1%n) (a%n) d n) n
def tzf:Nat→Nat→Nat
 |0,_=>0
 |f+1,x=>if x%2=1 then 0 else tzf f (x/2)+1
theorem tzf_spec:∀(f x:Nat),0<x→x<2^f→∃m,m%2=1∧x=2^tzf f x*m
 |0,x,h,h2=>by omega
 |f+1,x,h,h2=>by
  unfold tzf
  by_cases hx:x%2=1
  ·rw[if_pos hx]
   exact⟨x,hx,by simp⟩
  ·rw[if_neg hx]
   obtain⟨m,h3,h4⟩:=tzf_spec f (x/2) (by omega) (by omega)
   refine⟨m,h3, ?_⟩
   rw[Nat.pow_succ,Nat.mul_right_comm,←h4]
   omega
def isPr (n:Nat):Bool:=if n<2 then false else match smallL ps12 n with
 |some b=>b
 |none=>ps12.all fun a=> !wit a n ((n-1)/2^tzf 64 (n-1)) (tzf 64 (n-1))
section
variable {a b n k:Nat} {h:H} {K:AV→H→Prop}
theorem pmul_calls (ha:a<n) (hb:b<18446744073709551616) (hn:n<18446744073709551616) (hk:K (.int .u64 (a*b%n:Nat)) h):ACalls Tryd.prog 78 [.int .u64 (a:Int), .int .u64 (b:Int), .int .u64 (n:Int)] h K:=by
 refine in_prime_mul (by simp) fun hw=> ?_
 unfold c_prime_mul
 simp only[go_sem]
 refine Mul64_calls (by omega) hb ?_
 simp only[go_sem]
 have hlt:a*b/18446744073709551616<n:=by
  rw[Nat.div_lt_iff_lt_mul (by omega)]
  exact Nat.mul_lt_mul_of_lt_of_le ha (Nat.le_of_lt hb) (by omega)
 have e:a*b/18446744073709551616*18446744073709551616+a*b%18446744073709551616=a*b:=by omega
 refine Div64_calls hlt (Nat.mod_lt _ (by omega)) hn ?_
 rw[e]
 simp only[go_sem]
 exact fun _=>hk
theorem ppow_calls (ha:a<n) (hkB:k<18446744073709551616) (hn:n<18446744073709551616) (hk:K (.int .u64 (a^k%n:Nat)) h):ACalls Tryd.prog 77 [.int .u64 (a:Int), .int .u64 (k:Int), .int .u64 (n:Int)] h K:=by
 refine in_prime_pow (by simp) fun hw=> ?_
 unfold c_prime_pow
 have e1:(1:Int).tmod (n:Int)=((1%n:Nat):Int):=tmodN (a:=1)
 simp only[go_sem,e1]
 refine⟨by omega, ?_⟩
 refine⟨fun s ρ h'=>h'=h∧ρ 1= .int .u64 (s:Int)∧ρ 2= .int .u64 (n:Int)∧s<18446744073709551616∧∃x o:Nat,ρ 0= .int .u64 (x:Int)∧ρ 7= .int .u64 (o:Int)∧x<n∧o<n∧o*x^s%n=a^k%n,k,
  ⟨rfl,rfl,rfl,hkB,a,1%n,rfl,rfl,ha,Nat.mod_lt _ (by omega),by rw[Nat.mod_mul_mod,Nat.one_mul]⟩, ?_⟩
 rintro s ρ h' ⟨rfl,q1,q2,hs,x,o,q0,q7,hx,ho,hv⟩
 rcases Nat.eq_zero_or_pos s with rfl|hpos
 ·rw[Nat.pow_zero,Nat.mul_one,Nat.mod_eq_of_lt ho] at hv
  subst hv
  simp only[go_sem,q0,q1,q2,q7,show decide ((0:Int)<((0:Nat):Int))=false from rfl]
  exact fun _=>hk
 ·have hc:decide ((0:Int)<(s:Int))=true:=decide_eq_true (by omega)
  have e2:((s:Int)).tmod 2=((s%2:Nat):Int):=tmodN (b:=2)
  have e3:IntKind.u64.wrap ((s:Int).tdiv 2)=((s/2:Nat):Int):=by
   have e:((s:Int)).tdiv 2=((s/2:Nat):Int):=tdivN (b:=2)
   rw[e,wU]<;>omega
  have e:x^s=x^(s%2)*(x*x)^(s/2):=by
   rw[←Nat.pow_two,←Nat.pow_mul,←Nat.pow_add];congr 1;omega
  simp only[go_sem,q0,q1,q2,q7,hc,e2]
  refine⟨by omega, ?_⟩
  refine cond_cut (fun ρ h2=>h2=h'∧ρ 0= .int .u64 (x:Int)∧ρ 1= .int .u64 (s:Int)∧ρ 2= .int .u64 (n:Int)∧∃o',ρ 7= .int .u64 (o':Nat)∧o'<n∧o'*(x*x%n)^(s/2)%n=a^k%n) ?_ ?_
  ·rcases Nat.mod_two_eq_zero_or_one s with h0|h1
   ·simp only[go_sem,eqF (show((s%2:Nat):Int)≠1 by omega),q0,q1,q2,q7]
    refine⟨trivial,trivial,trivial,trivial,o,rfl,ho, ?_⟩
    rw[←hv,e,h0,Nat.pow_zero,Nat.one_mul,Nat.mul_mod,Nat.pow_mod,Nat.mod_mod,←Nat.pow_mod,←Nat.mul_mod]
   ·simp only[go_sem,eqT (show((s%2:Nat):Int)=1 by omega),q0,q1,q2,q7]
    refine pmul_calls ho (by omega) hn ?_
    simp only[go_sem,q0,q1,q2,q7]
    refine⟨trivial,trivial,trivial,trivial,_,rfl,Nat.mod_lt _ (by omega), ?_⟩
    rw[←hv,e,h1,Nat.pow_one,←Nat.mul_assoc,Nat.mul_mod,Nat.mod_mod,Nat.pow_mod,Nat.mod_mod,←Nat.pow_mod,←Nat.mul_mod]
  ·rintro ρ h2 ⟨rfl,q0,q1,q2,o',q7,ho',hv'⟩
   simp only[go_sem,q0,q1,q2,q7]
   refine pmul_calls hx (by omega) hn ?_
   simp only[go_sem,q0,q1,q2,q7,e3]
   exact⟨by omega,s/2,by omega,by first|rfl|trivial|assumption,by first|rfl|trivial|assumption,by first|rfl|trivial|assumption,by omega,_,o',rfl,rfl,Nat.mod_lt _ (by omega),ho',hv'⟩
theorem witness_calls {d s:Nat} (hn:n<18446744073709551616) (h2:2≤n) (hd:d<18446744073709551616) (hs:1≤s∧s≤64) (hk:K (.bool (wit a n d s)) h):ACalls Tryd.prog 74 [.int .u64 (a:Int), .int .u64 (n:Int), .int .u64 (d:Int), .int .i64 (s:Int)] h K:=by
 refine in_prime_witness (by simp) fun hw=> ?_
 unfold c_prime_witness
 have ep:pwl 64 (1%n) (a%n) d n=(a%n)^d%n:=by rw[pwl_eq (by omega) _ _ _ _ hd (Nat.mod_lt _ (by omega)),Nat.mod_mul_mod,Nat.one_mul]
 unfold wit at hk
 rw[ep] at hk
 simp only[go_sem,tmodN]
 refine⟨by omega, ?_⟩
 refine ppow_calls (Nat.mod_lt _ (by omega)) hd hn ?_
 have hx:(a%n)^d%n<n:=Nat.mod_lt _ (by omega)
 generalize (a%n)^d%n=x at*
 have e1:IntKind.u64.wrap ((n:Int)-1)=((n-1:Nat):Int):=subN1 (by omega) hn
 by_cases c0:x=0
 ·rw[if_pos (Or.inl c0)] at hk
  simp only[go_sem,eqT (show(x:Int)=0 by omega)]
  exact fun _=>hk
 by_cases c1:x=1
 ·rw[if_pos (Or.inr (Or.inl c1))] at hk
  simp only[go_sem,eqF (show(x:Int)≠0 by omega),eqT (show(x:Int)=1 by omega)]
  exact fun _=>hk
 by_cases c2:x=n-1
 ·rw[if_pos (Or.inr (Or.inr c2))] at hk
  simp only[go_sem,eqF (show(x:Int)≠0 by omega),eqF (show(x:Int)≠1 by omega),e1,eqT (show(x:Int)=((n-1:Nat):Int) by omega)]
  exact fun _=>hk
 rw[if_neg (by omega)] at hk
 have e4:IntKind.i64.wrap ((s:Int)-1)=((s-1:Nat):Int):=by rw[wI]<;>omega
 simp only[go_sem,eqF (show(x:Int)≠0 by omega),eqF (show(x:Int)≠1 by omega),e1,eqF (show(x:Int)≠((n-1:Nat):Int) by omega),e4]
 refine⟨fun m ρ h'=>h'=h∧ρ 1= .int .u64 (n:Int)∧ρ 29= .int .i64 ((s-1:Nat):Int)∧m≤s-1∧ρ 30= .int .i64 ((s-1-m:Nat):Int)∧∃x:Nat,ρ 9= .int .u64 (x:Int)∧x<n∧K (.bool (witL m x n)) h,s-1,⟨rfl,rfl,rfl,Nat.le_refl _,by rw[Nat.sub_self];rfl,x,rfl,hx,hk⟩, ?_⟩
 rintro m ρ h' ⟨rfl,q1,q29,hm,q30,x,q9,hx,hk⟩
 cases m with
 |zero=>
  simp only[go_sem,q1,q29,q30,q9,show decide (((s-1-0:Nat):Int)<((s-1:Nat):Int))=false from decide_eq_false (by omega)]
  exact fun _=>hk
 |succ m=>
  have c:decide (((s-1-(m+1):Nat):Int)<((s-1:Nat):Int))=true:=decide_eq_true (by omega)
  have e6:IntKind.i64.wrap (((s-1-(m+1):Nat):Int)+1)=((s-1-m:Nat):Int):=by rw[wI]<;>omega
  unfold witL at hk
  simp only[go_sem,q1,q29,q30,q9,c]
  refine pmul_calls hx (by omega) hn ?_
  have hy:x*x%n<n:=Nat.mod_lt _ (by omega)
  generalize x*x%n=y at*
  by_cases c2:y=n-1
  ·rw[if_pos c2] at hk
   simp only[go_sem,q1,q29,q30,e1,eqT (show(y:Int)=((n-1:Nat):Int) by omega)]
   exact fun _=>hk
  ·rw[if_neg c2] at hk
   simp only[go_sem,q1,q29,q30,e1,eqF (show(y:Int)≠((n-1:Nat):Int) by omega),e6]
   exact⟨m,by omega,by first|rfl|trivial|assumption,by first|rfl|trivial|assumption,by first|rfl|trivial|assumption,by omega,by first|rfl|trivial|assumption,y,rfl,hy,hk⟩
theorem ps12_get:∀i,i<12→∃q,(ps12.map fun q=>AV.int .u64 ((q:Nat):Int))[i]? =some (.int .u64 (q:Int))∧ps12.drop i=q::ps12.drop (i+1)∧2≤q∧q<18446744073709551616:=by
 intro i hi
 have hl:i<ps12.length:=hi
 refine⟨ps12[i],by simp[hl],by rw[List.drop_eq_getElem_cons hl], ?_⟩
 have:∀q∈ps12,2≤q∧q<18446744073709551616:=by decide
 exact this _ (List.getElem_mem hl)
theorem smallL_none {q:Nat}:∀ps:List Nat,smallL ps n=none→q∈ps→n%q≠0
 |p::ps,h,hq=>by
  unfold smallL at h
  split at h
  ·cases h
  ·rename_i h2
   rcases List.mem_cons.1 hq with rfl|h3
   ·exact h2
   ·exact smallL_none ps h h3
theorem new_agg {e:TypeId} {z:Nat} {Z L:List AV} {h1:H} (hw:h.wf) (hz:Z.length=L.length) (hh:(h.new ⟨some e,z,Z⟩).set h.next ⟨some e,z,putAt Z 0 L⟩=h1):h.le h1∧h1.gets h.next 0 L.length=some L∧h1.wf∧h.next<h1.next:=by
 subst hh
 refine⟨H.le_set hw (H.le_new hw (H.le_refl h) _) (Nat.le_refl _) _, ?_,H.wf_set (H.wf_new hw _) (Nat.lt_succ_self _) _,Nat.lt_succ_self _⟩
 have e:putAt Z 0 L=L:=by simp[putAt,hz]
 rw[H.gets_of (H.rows_set _ _ _) (by simp[e]),e]
 simp
theorem bld12:abuild [.int .u64 0, .int .u64 0, .int .u64 0, .int .u64 0, .int .u64 0, .int .u64 0, .int .u64 0, .int .u64 0, .int .u64 0, .int .u64 0, .int .u64 0, .int .u64 0] [(0,1, .int .u64 2),(1,1, .int .u64 3),(2,1, .int .u64 5),(3,1, .int .u64 7),(4,1, .int .u64 11),(5,1, .int .u64 13),(6,1, .int .u64 17),(7,1, .int .u64 19),(8,1, .int .u64 23),(9,1, .int .u64 29),(10,1, .int .u64 31),(11,1, .int .u64 37)]=some (ps12.map fun q=>AV.int .u64 ((q:Nat):Int)):=rfl
theorem Is_calls (hn:n<18446744073709551616) (hk:∀h',h'.wf→h.le h'→K (.bool (isPr n)) h'):ACalls Tryd.prog 65 [.int .u64 (n:Int)] h K:=by
 refine in_prime_Is (by simp) fun hw=> ?_
 unfold c_prime_Is
 unfold isPr at hk
 by_cases h2:n<2
 ·rw[if_pos h2] at hk
  simp only[go_sem,show decide ((n:Int)<2)=true from decide_eq_true (by omega)]
  exact fun hw=>hk _ hw (H.le_refl h)
 rw[if_neg h2] at hk
 simp only[go_sem,show decide ((n:Int)<2)=false from decide_eq_false (by omega)]
 rw[bld12]
 have gp:=ps12_get
 have hL:(ps12.map fun q=>AV.int .u64 ((q:Nat):Int)).length=12:=rfl
 have hL1:(ps12.map fun q=>AV.int .u64 ((q:Nat):Int)).all (·.one)=true:=rfl
 generalize (ps12.map fun q=>AV.int .u64 ((q:Nat):Int))=L at*
 simp only[go_sem]
 refine⟨hL,hL1, ?_⟩
 rw[H.rows_new]
 simp only[go_sem]
 refine⟨by simp,by simp, ?_⟩
 generalize hh:(h.new ⟨some _,_,_⟩).set h.next ⟨some _,_,_⟩=h1
 obtain⟨hl1,hg,hw1,_⟩:=new_agg hw (by rw[hL];rfl) hh
 rw[hL] at hg
 simp only[go_sem,hg]
 have hk:=fun hw=>hk h1 hw hl1
 refine⟨fun s ρ h'=>h'=h1∧ρ 0= .int .u64 (n:Int)∧ρ 3= .ptr (some (h.next,0))∧ρ 13= .agg L∧s≤12∧ρ 14= .int .i64 ((12-s:Nat):Int)∧smallL (ps12.drop (12-s)) n=smallL ps12 n,12,⟨rfl,rfl,rfl,rfl,Nat.le_refl _,rfl,rfl⟩, ?_⟩
 rintro s ρ h' ⟨rfl,q0,q3,q13,hs,q14,hv⟩
 cases s with
 |zero=>
  have c:decide (((12-0:Nat):Int)<12)=false:=rfl
  have hv:smallL ps12 n=none:=hv.symm
  rw[hv] at hk
  simp only at hk
  have h20:=smallL_none (q:=2) ps12 hv (by decide)
  have e1:IntKind.u64.wrap ((n:Int)-1)=((n-1:Nat):Int):=subN1 (by omega) hn
  obtain⟨m,hm,hx⟩:=tzf_spec 64 (n-1) (by omega) (by omega)
  generalize tzf 64 (n-1)=t at*
  have htl:t<64:=pow_lt64 hm (by omega)
  have ht:1≤t:=by
   rcases Nat.eq_zero_or_pos t with rfl|h0
   ·omega
   ·exact h0
  have e2:IntKind.u64.wrap (t:Int)=(t:Int):=wUn (by omega)
  have e3:=shrU (x:=n-1) (n:=t) (by omega)
  have hd:(n-1)/2^t<18446744073709551616:=Nat.lt_of_le_of_lt (Nat.div_le_self _ _) (by omega)
  simp only[go_sem,q0,q3,q13,q14,c,e1]
  rw[hx]
  refine TZ_calls hm (by omega) ?_
  rw[←hx]
  generalize (n-1)/2^t=d at*
  simp only[go_sem,q0,q3,e1,e2,e3,hg]
  refine⟨by omega, ?_⟩
  refine⟨fun s ρ h2=>h2=h'∧ρ 0= .int .u64 (n:Int)∧ρ 6= .int .i64 (t:Int)∧ρ 7= .int .u64 (d:Int)∧ρ 33= .agg L∧s≤12∧ρ 34= .int .i64 ((12-s:Nat):Int)∧(h'.wf→K (.bool ((ps12.drop (12-s)).all fun a=> !wit a n d t)) h'),12,⟨rfl,by first|rfl|trivial|assumption,by first|rfl|trivial|assumption,by first|rfl|trivial|assumption,rfl,Nat.le_refl _,rfl,by rw[Nat.sub_self,List.drop_zero];exact hk⟩, ?_⟩
  rintro s ρ h2 ⟨rfl,q0,q6,q7,q33,hs,q34,hk⟩
  cases s with
  |zero=>
   simp only[go_sem,q0,q6,q7,q33,q34,show decide (((12-0:Nat):Int)<12)=false from rfl]
   exact hk
  |succ s=>
   have c:decide (((12-(s+1):Nat):Int)<12)=true:=decide_eq_true (by omega)
   have e6:IntKind.i64.wrap (((12-(s+1):Nat):Int)+1)=((12-s:Nat):Int):=by rw[wI]<;>omega
   obtain⟨q,hq,hdr,h2q,hqB⟩:=gp (12-(s+1)) (by omega)
   rw[hdr,show 12-(s+1)+1=12-s by omega,List.all_cons] at hk
   simp only[go_sem,q0,q6,q7,q33,q34,c,hq,Int.toNat_natCast,Nat.mul_one]
   refine⟨by omega,by omega, ?_⟩
   refine witness_calls hn (by omega) hd ⟨ht,by omega⟩ ?_
   cases hwt:wit q n d t with
   |true=>
    rw[hwt] at hk
    simp only[go_sem,q0,q6,q7,q33,q34]
    exact hk
   |false=>
    rw[hwt] at hk
    simp only[go_sem,q0,q6,q7,q33,q34,e6]
    exact⟨s,by omega,by first|rfl|trivial|assumption,by first|rfl|trivial|assumption,by first|rfl|trivial|assumption,by first|rfl|trivial|assumption,by first|rfl|trivial|assumption,by omega,by first|rfl|trivial|assumption,hk⟩
 |succ s=>
  have c:decide (((12-(s+1):Nat):Int)<12)=true:=decide_eq_true (by omega)
  have e6:IntKind.i64.wrap (((12-(s+1):Nat):Int)+1)=((12-s:Nat):Int):=by rw[wI]<;>omega
  obtain⟨q,hq,hdr,h2q,hqB⟩:=gp (12-(s+1)) (by omega)
  rw[hdr,show 12-(s+1)+1=12-s by omega] at hv
  rw[smallL] at hv
  simp only[go_sem,q0,q3,q13,q14,c,hq,Int.toNat_natCast,Nat.mul_one,tmodN]
  refine⟨by omega,by omega,by omega, ?_⟩
  by_cases h0:n%q=0
  ·rw[if_pos h0] at hv
   rw[←hv] at hk
   have eD:((n:Int)==(q:Int))=decide (n=q):=by
    rw[Bool.eq_iff_iff];simp;omega
   simp only[go_sem,q0,q3,q13,q14,eqT (show((n%q:Nat):Int)=0 by omega),eD]
   exact hk
  ·rw[if_neg h0] at hv
   simp only[go_sem,q0,q3,q13,q14,eqF (show((n%q:Nat):Int)≠0 by omega),e6]
   exact⟨s,by omega,by first|rfl|trivial|assumption,by first|rfl|trivial|assumption,by first|rfl|trivial|assumption,by first|rfl|trivial|assumption,by omega,by first|rfl|trivial|assumption,hv⟩
theorem pMod_calls {p:Nat} (hp:3≤p∧p<4611686018427387904) (ho:p%2=1) (hi:isPr p=true) (hk:∀i h',h'.wf→h.le h'→h.next≤i→MW h' i p→K (.tup [.ptr (some (i,0)), .int .i64 0]) h'):ACalls Tryd.prog 46 [.int .u64 (p:Int)] h K:=by
 refine in_prime_Mod (by simp) fun hw=> ?_
 unfold c_prime_Mod
 have e2:((p:Int)).tmod 2=((p%2:Nat):Int):=tmodN (b:=2)
 have c2:decide (4611686018427387904≤(p:Int))=false:=decide_eq_false (by omega)
 simp only[go_sem,c2,e2,eqF (show((p%2:Nat):Int)≠0 by omega)]
 refine⟨by decide, ?_⟩
 refine Is_calls (by omega) fun h1 hw1 hl1=> ?_
 rw[hi]
 simp only[go_sem,Bool.not_true]
 refine mwNew_calls hp ho fun i h2 hw2 hl2 hn hm=> ?_
 simp only[go_sem]
 exact fun hw'=>hk i _ hw' (H.le_trans hl1 hl2) (by have:=hl1.1;omega) hm
end
end
end Ab
end Go.Proofs.YtkbglkjpdndkiaaDoor
