/- Joined texts: L2 L3 H6 C6 M7. No condition. -/
import Derived.Test.YtkbglkjpdndkiaaGreatDoorZ6
import Derived.WalkKit
import Derived.ProofKit
import Derived.OpenShut
import Derived.ChangeSame
import Derived.Carry
import Derived.Deep.Slices
import Derived.Test.YtkbglkjpdndkiaaGreatDoorProg
import Derived.KernelRfl
namespace Go.Proofs.YtkbglkjpdndkiaaGreatDoor
namespace Ab
open Go Go.RowKit
set_option linter.unusedSimpArgs false
set_option linter.unusedVariables false
attribute [local go_sem ↓] x_mv x_pick x_bin x_beq x_peq x_seq x_cat x_aeq x_idxS x_idxV x_un x_cvI x_bts x_idx x_idxA x_fld x_ld x_st x_nn x_prt x_slc x_mk x_bsl x_bld x_box x_alloc x_len x_capo x_mnx x_app x_cpy x_mkf x_ext x_call x_callV x_bad s_none s_some s_nil s_cons s_chks w_skip w_reg tP_fin tP_no tP_alt w_seq w_cond w_block w_exit w_ret t_normal t_exit t_ret b_normal b_ret b_exit n_normal n_exit n_ret p_normal p_ret f_nil f_t f_c k_ops k_chk k_fin
attribute [local go_sem] e_t e_c e_f u_some u_none u_at env_at k_v k_pick k_add k_sub k_mul k_quo k_rem k_and k_or k_xor k_shl k_shr k_eql k_neq k_lss k_leq k_gtr k_geq k_beq k_peqn k_peqs k_neg k_not k_com k_cvI k_idxS k_idxV1 k_idxVn k_idx k_idxA k_idxG k_ldG k_gld k_seq k_cat k_aeq k_eqs k_fld k_ld1 k_ldn k_get k_gets k_sti k_stb k_stp k_sts k_stf k_sta k_put k_nn k_prt1 k_prtn k_slc_a k_slc_b k_slc_c k_mk k_agg k_bsl k_box k_len k_lenS k_cap k_max k_min k_ext k_callV k_true k_false k_gtt k_gtf k_gft k_gsk k_gff k_lit1i k_lit2i k_lit3i k_c0 k_c1 k_ck List.getElem?_cons_zero List.getElem?_cons_succ List.getElem?_nil Option.getD_some Option.getD_none tupOf List.map_cons List.map_nil Option.map_some Option.map_none List.nil_append List.cons_append List.append_nil Nat.mul_one Int.toNat_natCast Nat.zero_add
attribute [local go_sem] e_t e_c e_f u_some u_none u_at env_at k_v k_pick k_add k_sub k_mul k_quo k_rem k_and k_or k_xor k_shl k_shr k_eql k_neq k_lss k_leq k_gtr k_geq k_beq k_peqn k_peqs k_neg k_not k_com k_cvI k_idxS k_idxV1 k_idxVn k_idx k_idxA k_idxG k_ldG k_gld k_seq k_cat k_aeq k_eqs k_fld k_ld1 k_ldn k_get k_gets k_sti k_stb k_stp k_sts k_stf k_sta k_put k_nn k_prt1 k_prtn k_slc_a k_slc_b k_slc_c k_mk k_agg k_bsl k_box k_len k_lenS k_cap k_max k_min k_ext k_callV k_true k_false k_gtt k_gtf k_gft k_gsk k_gff k_lit1i k_lit2i k_lit3i k_c0 k_c1 k_ck List.getElem?_cons_zero List.getElem?_cons_succ List.getElem?_nil Option.getD_some Option.getD_none tupOf List.map_cons List.map_nil Option.map_some Option.map_none List.nil_append List.cons_append List.append_nil Nat.mul_one Int.toNat_natCast Nat.zero_add
--what a store into a cell of two leaves
attribute [local go_sem_proc] Nat.reduceEqDiff Nat.reduceAdd Int.reduceToNat
attribute [local go_sem_proc ↓] reduceIte
attribute [local go_sem] Bool.false_eq_true
section
open Go Go.RowKit Go.WideShapes Go.ChangeShapes Go.ChangeAt
inductive Reads (P:Program) (h:H):TypeId→List AV→Prop
 |int {t:TypeId} {k:IntKind} {n:Int} (ht:P.underlying t=some (.int k)) (hw:(Lit.int k n).wf=true):Reads P h t [.int k n]
 |bool {t:TypeId} {b:Bool} (ht:P.underlying t=some .bool):Reads P h t [.bool b]
 |str {t:TypeId} {s:ByteArray} (ht:P.underlying t=some .string) (hs:s.size≤maxLen):Reads P h t [.str s]
 |snil {t e:TypeId} (ht:P.underlying t=some (.slice e)):Reads P h t [.sl none 0 0 none]
 |sl {t e:TypeId} {id len:Nat} {r:Row} (ht:P.underlying t=some (.slice e)) (hr:h.rows id=some r) (ho:r.own=none) (hlen:len≤maxLen) (hl:r.cells.length=len*P.cellsOf e)
   (he:∀i,i<len→Reads P h e ((r.cells.drop (i*P.cellsOf e)).take (P.cellsOf e))):Reads P h t [.sl (some id) 0 len none]
 |struct {t:TypeId} {fs:Array Field} {l:List AV} (ht:P.underlying t=some (.struct fs)) (hl:l.length=P.cellsOf t)
   (hf:∀f∈fs.toList,Reads P h f.type ((l.drop f.offset).take (P.cellsOf f.type))):Reads P h t l
theorem Reads.mono {P:Program} {h h':H} (hl:h.le h') {t:TypeId} {l:List AV} (r:Reads P h t l):Reads P h' t l:=by
 induction r with
 |int ht hw=>exact .int ht hw
 |bool ht=>exact .bool ht
 |str ht hs=>exact .str ht hs
 |snil ht=>exact .snil ht
 |sl ht hr ho hlen hl' _ ih=>exact .sl ht (hl.2 _ _ hr) ho hlen hl' ih
 |struct ht hl' _ ih=>exact .struct ht hl' ih
def ReadsV (P:Program) (h:H) (t:TypeId) (u:AV):Prop:=
 match P.underlying t with
 |some (.struct _)=>∃l,u= .agg l∧Reads P h t l
 |_=>Reads P h t [u]
theorem ReadsV.mono {P:Program} {h h':H} (hl:h.le h') {t:TypeId} {u:AV} (r:ReadsV P h t u):ReadsV P h' t u:=by
 unfold ReadsV at*
 split at r
 ·obtain⟨l,e,r⟩:=r;exact⟨l,e,r.mono hl⟩
 ·exact r.mono hl
def plainB (P:Program):Nat→TypeId→Bool
 |0,_=>false
 |d+1,t=>match P.underlying t with
  |some .bool=>true
  |some (.int _)=>true
  |some .string=>true
  |some (.slice e)=>decide (0<P.cellsOf e)&&plainB P d e
  |some (.struct fs)=>fs.toList.all (fun f=>plainB P d f.type)&&P.cellsOf t==(fs.toList.map fun f=>P.cellsOf f.type).sum&&
    (List.range fs.toList.length).all fun j=>match fs.toList[j]? with|some f=>f.offset==((fs.toList.take j).map fun f=>P.cellsOf f.type).sum|none=>true
  |_=>false
section
variable {H':Type} {enc:TypeId×Value→H'} {P:Program} {w:World}
theorem cells_get {base:Nat} {a:Addr} {n:Nat} {cs:List Value} (h:w.cells? base a n=some cs):cs.length=n∧∀i v,cs[i]? =some v→w.cell? (a.add i)=some v:=by
 unfold World.cells? at h
 split at h
 ·refine⟨by simpa using mapM_some_length h,fun i v hv=> ?_⟩
  have hi:i<n:=by
   have:=mapM_some_length h
   have h2:=(List.getElem?_eq_some_iff.1 hv).1
   simp at this
   omega
  rw[mapM_some_get h i i (by simp[hi]),hv]
 ·cases h
theorem cell_block {a:Addr} {v:Value} (h:w.cell? a=some v):a.block<w.heap.size:=by
 unfold World.cell? at h
 split at h
 ·rename_i c _ _ e
  exact(Array.getElem?_eq_some_iff.1 e).1
 ·cases h
theorem Rep.note {base:Nat} {w0:World} {μ:Mu} {h:H} (R:Rep base w0 μ w h) {a:Addr} {z:Nat} {l:List AV} (ha:a.block<base) (hl:∀(j:Nat) (u:AV),l[j]? =some u→∃v,w.cell? (a.add j)=some v∧Rel μ u v):
  μ.le (μ.put h.next ⟨a,z,none⟩)∧Rep base w0 (μ.put h.next ⟨a,z,none⟩) w (h.new ⟨none,z,l⟩):=by
 have hfree:=R.free h.next (Nat.le_refl _)
 have hle:=Mu.le_put hfree (⟨a,z,none⟩:Pl)
 refine⟨hle,R.below,R.size,R.glob,fun id hid=> ?_,fun id r hr=> ?_,fun id id' r r' p p' hr hr' ho ho' hp hp'=> ?_⟩
 ·simp only[H.new] at hid
  simp only[Mu.put]
  rw[if_neg (by omega)]
  exact R.free id (by omega)
 ·simp only[H.new] at hr
  split at hr
  ·rename_i e
   injection hr with hr
   subst hr
   subst e
   exact⟨⟨a,z,none⟩,by simp[Mu.put],ha,rfl,fun j u hu=>by
    obtain⟨v,h1,h2⟩:=hl j u hu
    exact⟨v,h1,h2.mono hle⟩⟩
  ·obtain⟨p,hp,hR⟩:=R.row id r hr
   exact⟨p,hle _ _ hp,hR.mono hle⟩
 ·have old:∀{i:Nat} {r:Row} {p:Pl},(h.new ⟨none,z,l⟩).rows i=some r→r.own≠none→(μ.put h.next ⟨a,z,none⟩) i=some p→h.rows i=some r∧μ i=some p:=by
   intro i r p hr ho hp
   simp only[H.new] at hr
   split at hr
   ·injection hr with hr
    subst hr
    exact absurd rfl ho
   ·rename_i e
    simp only[Mu.put] at hp
    rw[if_neg e] at hp
    exact⟨hr,hp⟩
  obtain⟨a1,a2⟩:=old hr ho hp
  obtain⟨b1,b2⟩:=old hr' ho' hp'
  exact R.apart id id' r r' p p' a1 b1 ho ho' a2 b2
theorem sum_take_succ {α:Type} (l:List α) (g:α→Nat) (j:Nat) (x:α) (h:l[j]? =some x):((l.take (j+1)).map g).sum=((l.take j).map g).sum+g x:=by
 obtain⟨hj,rfl⟩:=List.getElem?_eq_some_iff.1 h
 rw[List.take_succ_eq_append_getElem hj,List.map_append,List.sum_append]
 simp
theorem absorb (base:Nat):∀(n d:Nat) (t:TypeId) (cs:List Value) (x:DataW H'×List MemPlace) (μ:Mu) (h:H),plainB P d t=true→DataW.trod enc P w base (fun _=>true) true n t cs=some x→
  Rep w.heap.size w μ w h→∃μ' h' l,μ.le μ'∧h.le h'∧Rep w.heap.size w μ' w h'∧RelA μ' l cs∧Reads P h' t l:=by
 intro n
 induction n with
 |zero=>intro d t cs x μ h _ hx;simp[DataW.trod] at hx
 |succ n ih=>
  intro d t cs x μ h hp hx R
  cases d with
  |zero=>simp[plainB] at hp
  |succ d=>
   rw[DataW.trod_step] at hx
   unfold DataW.trodStep at hx
   unfold plainB at hp
   split at hx
   case h_1 b ht=>exact⟨μ,h,[.bool b],μ.le_refl,H.le_refl h,R,(RelA.nil μ).cons (.bool b), .bool ht⟩
   case h_2 k k' m ht=>
    split at hx
    ·rename_i hc
     obtain⟨rfl,hw⟩:=hc
     exact⟨μ,h,[.int k' m],μ.le_refl,H.le_refl h,R,(RelA.nil μ).cons (.int k' m), .int ht hw⟩
    ·cases hx
   case h_4 s ht=>
    split at hx
    ·rename_i hc
     exact⟨μ,h,[.str s],μ.le_refl,H.le_refl h,R,(RelA.nil μ).cons (.str s), .str ht hc⟩
    ·cases hx
   case h_7 e ht=>exact⟨μ,h,[.sl none 0 0 none],μ.le_refl,H.le_refl h,R,(RelA.nil μ).cons (.snil (fun x hx=>by cases hx)), .snil ht⟩
   case h_8 e a len cap ht=>
    rw[ht] at hp
    simp only[Bool.and_eq_true,decide_eq_true_eq] at hp
    obtain⟨hpos,hpe⟩:=hp
    simp only at hx
    split at hx
    ·rename_i hc
     simp only[Option.map_eq_some_iff,Option.bind_eq_some_iff,if_true] at hx
     obtain⟨elems,he,rest,hrest,rfl⟩:=hx
     rcases Nat.eq_zero_or_pos cap with hc0|hc0
     ·have hl0:len=0:=by omega
      subst hc0;subst hl0
      exact⟨μ,h,[.sl none 0 0 none],μ.le_refl,H.le_refl h,R,(RelA.nil μ).cons (.snil (fun x hx=>by cases hx)), .snil ht⟩
     ·--the block is there
      have hblk:a.block<w.heap.size:=by
       rcases Nat.eq_zero_or_pos len with hl0|hl0
       ·subst hl0
        have h0:=mapM_some_get hrest 0 0 (List.getElem?_range (by omega))
        have hne:=mapM_some_length hrest
        rw[List.length_range] at hne
        obtain⟨y,hy⟩:∃y,rest[0]? =some y:=⟨_,List.getElem?_eq_getElem (by omega)⟩
        rw[hy] at h0
        simp only[Option.bind_eq_some_iff] at h0
        obtain⟨cs',hcs,_⟩:=h0
        obtain⟨h1,h2⟩:=cells_get hcs
        have:=cell_block (h2 0 _ (List.getElem?_eq_getElem (by omega)))
        simpa [block_add] using this
       ·have h0:=mapM_some_get he 0 0 (List.getElem?_range (by omega))
        have hne:=mapM_some_length he
        rw[List.length_range] at hne
        obtain⟨y,hy⟩:∃y,elems[0]? =some y:=⟨_,List.getElem?_eq_getElem (by omega)⟩
        rw[hy] at h0
        simp only[Option.bind_eq_some_iff] at h0
        obtain⟨cs',hcs,_⟩:=h0
        obtain⟨h1,h2⟩:=cells_get hcs
        have:=cell_block (h2 0 _ (List.getElem?_eq_getElem (by omega)))
        simpa [block_add] using this
      --the elements,one after the other
      have step:∀m,m≤len→∃(μ':Mu) (h':H) (l:List AV),μ.le μ'∧h.le h'∧Rep w.heap.size w μ' w h'∧l.length=m*P.cellsOf e∧(∀(j:Nat) (u:AV),l[j]? =some u→∃v,w.cell? (a.add j)=some v∧Rel μ' u v)∧
        ∀i,i<m→Reads P h' e ((l.drop (i*P.cellsOf e)).take (P.cellsOf e)):=by
       intro m
       induction m with
       |zero=>exact fun _=>⟨μ,h,[],μ.le_refl,H.le_refl h,R,by simp,fun j u hu=>by simp at hu,fun i hi=>by omega⟩
       |succ m ihm=>
        intro hm
        obtain⟨μ1,h1,l1,q1,q2,q3,q4,q5,q6⟩:=ihm (by omega)
        have hne:=mapM_some_length he
        rw[List.length_range] at hne
        have h0:=mapM_some_get he m m (List.getElem?_range (by omega))
        rw[List.getElem?_eq_getElem (show m<elems.length by omega)] at h0
        simp only[Option.bind_eq_some_iff] at h0
        obtain⟨cs',hcs,hy⟩:=h0
        obtain⟨g1,g2⟩:=cells_get hcs
        obtain⟨μ2,h2,l2,r1,r2,r3,r4,r5⟩:=ih d e cs' _ μ1 h1 hpe hy q3
        have hl2:l2.length=P.cellsOf e:=by rw[r4.1,g1]
        refine⟨μ2,h2,l1++l2,Mu.le_trans q1 r1,H.le_trans q2 r2,r3,by rw[List.length_append,q4,hl2,Nat.succ_mul],fun j u hu=> ?_,fun i hi=> ?_⟩
        ·rcases Nat.lt_or_ge j l1.length with hj|hj
         ·rw[List.getElem?_append_left hj] at hu
          obtain⟨v,e1,e2⟩:=q5 j u hu
          exact⟨v,e1,e2.mono r1⟩
         ·rw[List.getElem?_append_right hj] at hu
          have hj2:j-l1.length<cs'.length:=by
           have:=(List.getElem?_eq_some_iff.1 hu).1
           omega
          refine⟨cs'[j-l1.length], ?_,r4.2 _ _ _ hu (List.getElem?_eq_getElem hj2)⟩
          have:=g2 _ _ (List.getElem?_eq_getElem hj2)
          rw[add_add,←q4] at this
          rwa[show l1.length+(j-l1.length)=j from by omega] at this
        ·rcases Nat.lt_or_ge i m with hi2|hi2
         ·have:=(q6 i hi2).mono r2
          have hfit:i*P.cellsOf e+P.cellsOf e≤l1.length:=by
           rw[q4,←Nat.succ_mul]
           exact Nat.mul_le_mul_right _ hi2
          rw[List.drop_append_of_le_length (by omega),List.take_append_of_le_length (by simp;omega)]
          exact this
         ·have:i=m:=by omega
          subst this
          rw[←q4,List.drop_left,←hl2,List.take_length]
          exact r5
      obtain⟨μ1,h1,l,q1,q2,q3,q4,q5,q6⟩:=step len (Nat.le_refl _)
      obtain⟨s1,s2⟩:=q3.note (z:=P.cellsOf e) hblk q5
      have hw1:=q3.wf
      refine⟨_,_,[.sl (some h1.next) 0 len none],Mu.le_trans q1 s1,H.le_trans q2 (H.le_new hw1 (H.le_refl h1) _),s2,(RelA.nil _).cons ?_, ?_⟩
      ·exact Rel.sl (p:=⟨a,P.cellsOf e,none⟩) (by simp[Mu.put]) (.inr (by simp[Addr.add])) hc.2.1 (fun x hx=>by cases hx) (fun T hT=>by cases hT)
      ·exact .sl ht (H.rows_new _ _) rfl (Nat.le_trans hc.2.1 hc.2.2) q4 (fun i hi=>(q6 i hi).mono (H.le_new hw1 (H.le_refl h1) _))
    ·cases hx
   case h_9=>
    rename_i cs _ _ fs ht
    rw[ht] at hp
    simp only[Bool.and_eq_true,beq_iff_eq,List.all_eq_true] at hp
    obtain⟨⟨hpf,hsum⟩,hoff⟩:=hp
    split at hx
    ·rename_i hc
     simp only[Option.map_eq_some_iff] at hx
     obtain⟨xs,hm,rfl⟩:=hx
     have off:∀j f,fs.toList[j]? =some f→f.offset=((fs.toList.take j).map fun f=>P.cellsOf f.type).sum:=by
      intro j f hf
      have hj:=(List.getElem?_eq_some_iff.1 hf).1
      have:=hoff j (List.mem_range.2 hj)
      rw[hf] at this
      simpa using this
     have step:∀m,m≤fs.toList.length→∃(μ':Mu) (h':H) (l:List AV),μ.le μ'∧h.le h'∧Rep w.heap.size w μ' w h'∧l.length=((fs.toList.take m).map fun f=>P.cellsOf f.type).sum∧RelA μ' l (cs.take ((fs.toList.take m).map fun f=>P.cellsOf f.type).sum)∧
       ∀j f,j<m→fs.toList[j]? =some f→Reads P h' f.type ((l.drop f.offset).take (P.cellsOf f.type)):=by
      intro m
      induction m with
      |zero=>exact fun _=>⟨μ,h,[],μ.le_refl,H.le_refl h,R,by simp,by simpa using RelA.nil μ,fun j f hj=>by omega⟩
      |succ m ihm=>
       intro hm2
       obtain⟨μ1,h1,l1,q1,q2,q3,q4,q5,q6⟩:=ihm (by omega)
       obtain⟨f,hf⟩:∃f,fs.toList[m]? =some f:=⟨_,List.getElem?_eq_getElem (by omega)⟩
       have h0:=mapM_some_get hm m f hf
       rw[List.getElem?_eq_getElem (show m<xs.length by rw[mapM_some_length hm];omega)] at h0
       have ho:=off m f hf
       obtain⟨μ2,h2,l2,r1,r2,r3,r4,r5⟩:=ih d f.type _ _ μ1 h1 (hpf f (List.mem_of_getElem? hf)) h0 q3
       have htot:((fs.toList.take (m+1)).map fun f=>P.cellsOf f.type).sum≤cs.length:=by
        rw[hc,hsum]
        conv=>rhs;rw[←List.take_append_drop (m+1) fs.toList]
        rw[List.map_append,List.sum_append]
        omega
       rw[sum_take_succ _ _ _ _ hf] at htot⊢
       have hl2:l2.length=P.cellsOf f.type:=by
        rw[r4.1,List.length_take,List.length_drop,ho]
        omega
       refine⟨μ2,h2,l1++l2,Mu.le_trans q1 r1,H.le_trans q2 r2,r3,by rw[List.length_append,q4,hl2], ?_,fun j g hj hg=> ?_⟩
       ·rw[List.take_add,←ho]
        rw[←ho] at q5
        exact(q5.mono r1).append r4
       ·rcases Nat.lt_or_ge j m with hj2|hj2
        ·have h3:=(q6 j g hj2 hg).mono r2
         have hfit:g.offset+P.cellsOf g.type≤l1.length:=by
          rw[q4,off j g hg,←sum_take_succ fs.toList (fun f=>P.cellsOf f.type) j g hg]
          have:fs.toList.take m=fs.toList.take (j+1)++(fs.toList.take m).drop (j+1):=by
           conv=>lhs;rw[←List.take_append_drop (j+1) (fs.toList.take m)]
           rw[List.take_take,Nat.min_eq_left (by omega)]
          rw[this,List.map_append,List.sum_append]
          omega
         rw[List.drop_append_of_le_length (by omega),List.take_append_of_le_length (by simp;omega)]
         exact h3
        ·have:j=m:=by omega
         subst this
         rw[hf] at hg
         injection hg with hg
         subst hg
         rw[ho,←q4,List.drop_left,←hl2,List.take_length]
         exact r5
     obtain⟨μ1,h1,l,q1,q2,q3,q4,q5,q6⟩:=step fs.toList.length (Nat.le_refl _)
     rw[List.take_length,←hsum] at q4 q5
     rw[List.take_of_length_le (by omega)] at q5
     refine⟨μ1,h1,l,q1,q2,q3,q5, .struct ht q4 fun f hf=> ?_⟩
     obtain⟨j,hj,rfl⟩:=List.getElem_of_mem hf
     exact q6 j _ hj (List.getElem?_eq_getElem hj)
    ·cases hx
   all_goals first
    |(simp only[‹P.underlying t=_›] at hp;cases hp;done)
    |(cases hx;done)
    |(split at hp<;>simp_all;done)
    |skip
def ReadsAll (P:Program) (h:H):List TypeId→List AV→Prop
 |[],[]=>True
 |t::ts,u::us=>ReadsV P h t u∧ReadsAll P h ts us
 |_,_=>False
theorem absorbV {base b d:Nat} {t:TypeId} {v:Value} {x:DataW H'} {ps:List MemPlace} {μ:Mu} {h:H} (hp:plainB P d t=true) (hx:DataW.Trod enc P w base (fun _=>true) true t v x ps) (hok:Value.okWide P w .any b t v)
  (R:Rep w.heap.size w μ w h):∃μ' h' u,μ.le μ'∧h.le h'∧Rep w.heap.size w μ' w h'∧Rel μ' u v∧ReadsV P h' t u:=by
 obtain⟨n,hx⟩:=hx
 obtain⟨μ',h',l,q1,q2,q3,q4,q5⟩:=absorb base n d t _ _ μ h hp hx R
 unfold ReadsV
 have one:v.cells.toList=[v]→∃u,Rel μ' u v∧l=[u]:=by
  intro hv
  rw[hv] at q4
  cases l with
  |nil=>simp[RelA] at q4
  |cons u l=>
   have hl:l=[]:=by
    have:=q4.1
    simp at this
    exact this
   subst hl
   exact⟨u,q4.2 0 u v rfl rfl,rfl⟩
 cases d with
 |zero=>simp[plainB] at hp
 |succ d=>
  unfold plainB at hp
  split at hp
  ·rename_i ht
   have hv:∃y,v= .bool y:=by
    simp only[Value.okWide,ht,Cell.okWide] at hok
    cases v<;>simp_all [Cell.ok]
   obtain⟨y,rfl⟩:=hv
   obtain⟨u,hu,rfl⟩:=one rfl
   exact⟨μ',h',u,q1,q2,q3,hu,by simpa [ht] using q5⟩
  ·rename_i k ht
   obtain⟨y,rfl⟩:=okWide_int ht hok
   obtain⟨u,hu,rfl⟩:=one rfl
   exact⟨μ',h',u,q1,q2,q3,hu,by simpa [ht] using q5⟩
  ·rename_i ht
   obtain⟨y,rfl⟩:=okWide_string ht hok
   obtain⟨u,hu,rfl⟩:=one rfl
   exact⟨μ',h',u,q1,q2,q3,hu,by simpa [ht] using q5⟩
  ·rename_i e ht
   obtain⟨y,l',c',rfl⟩:=okWide_slice ht hok
   obtain⟨u,hu,rfl⟩:=one rfl
   exact⟨μ',h',u,q1,q2,q3,hu,by simpa [ht] using q5⟩
  ·rename_i fs ht
   have hv:∃cs,v= .agg cs:=by
    simp only[Value.okWide,ht] at hok
    obtain⟨cs,rfl,_⟩:=hok
    exact⟨cs,rfl⟩
   obtain⟨cs,rfl⟩:=hv
   refine⟨μ',h', .agg l,q1,q2,q3, ?_,by simpa [ht] using q5⟩
   simpa [Value.cells] using q4.agg
  ·cases hp
theorem absorb_args {base b d:Nat}:∀{ts:List TypeId} {vs:List Value} {ds:List (DataW H')} {ps:List MemPlace} {μ:Mu} {h:H},(∀t∈ts,plainB P d t=true)→DataW.TrodAll enc P w base (fun _=>true) true ts vs ds ps→
  (∀(j:Nat) (t:TypeId) (v:Value),ts[j]? =some t→vs[j]? =some v→Value.okWide P w .any b t v)→Rep w.heap.size w μ w h→∃μ' h' us,h.le h'∧Rep w.heap.size w μ' w h'∧μ.le μ'∧RelA μ' us vs∧ReadsAll P h' ts us
 |[],[],[],_,μ,h,_,_,_,R=>⟨μ,h,[],H.le_refl h,R,μ.le_refl,RelA.nil μ,trivial⟩
 |t::ts,v::vs,x::ds,_,μ,h,hp,⟨p,q,hx,hrest,_⟩,hok,R=>by
  obtain⟨μ1,h1,u,q1,q2,q3,q4,q5⟩:=absorbV (hp t (by simp)) hx (hok 0 t v rfl rfl) R
  obtain⟨μ2,h2,us,r1,r2,r3,r4,r5⟩:=absorb_args (fun t ht=>hp t (by simp[ht])) hrest (fun j t v ht hv=>hok (j+1) t v (by simpa using ht) (by simpa using hv)) q3
  exact⟨μ2,h2,u::us,H.le_trans q2 r1,r2,Mu.le_trans q1 r3,RelA.cons (q4.mono r3) r4,q5.mono r1,r5⟩
 |[],_::_,_,_,_,_,_,hx,_,_=>hx.elim
 |[],[],_::_,_,_,_,_,hx,_,_=>hx.elim
 |_::_,[],_,_,_,_,_,hx,_,_=>hx.elim
 |_::_,_::_,[],_,_,_,_,hx,_,_=>hx.elim
theorem trodAll_stays (hl:laidOutB P=true) {W W':World} {sp':Nat→Bool}:∀{ts:List TypeId} {vs:List Value} {ds:List (DataW H')} {ps:List MemPlace},(∀t∈ts,P.readableRec t=true∧t<P.types.size)→
  DataW.TrodAll enc P W 0 (fun _=>true) true ts vs ds ps→(∀p∈ps,W.sameAt W' p)→(∀p∈ps,sp' p.block=true)→DataW.TrodAll enc P W' 0 sp' true ts vs ds ps
 |[],[],[],_,_,hx,_,_=>hx
 |t::ts,v::vs,x::ds,_,ht,⟨p,q,hx,hrest,e⟩,h1,h2=>by
  subst e
  exact⟨p,q,WideElems.Trod_stays hl (ht t (by simp)).1 (ht t (by simp)).2 hx (fun y hy=>h1 y (by simp[hy])) (fun y hy=>h2 y (by simp[hy])),
   trodAll_stays hl (fun t' ht'=>ht t' (by simp[ht'])) hrest (fun y hy=>h1 y (by simp[hy])) (fun y hy=>h2 y (by simp[hy])),rfl⟩
 |[],_::_,_,_,_,hx,_,_=>hx.elim
 |[],[],_::_,_,_,hx,_,_=>hx.elim
 |_::_,[],_,_,_,hx,_,_=>hx.elim
 |_::_,_::_,[],_,_,hx,_,_=>hx.elim
theorem trodAll_length:∀{ts:List TypeId} {vs:List Value} {ds:List (DataW H')} {ps:List MemPlace} {W:World} {b:Nat} {sp:Nat→Bool} {hd:Bool},DataW.TrodAll enc P W b sp hd ts vs ds ps→ds.length=ts.length
 |[],[],[],_,_,_,_,_,_=>rfl
 |_::_,_::_,_::_,_,_,_,_,_,⟨_,_,_,h,_⟩=>by simp[trodAll_length h]
 |[],_::_,_,_,_,_,_,_,hx=>hx.elim
 |[],[],_::_,_,_,_,_,_,hx=>hx.elim
 |_::_,[],_,_,_,_,_,_,hx=>hx.elim
 |_::_,_::_,[],_,_,_,_,_,hx=>hx.elim
theorem law_row {f:FuncId} {fn:Func} {s:ChangeSpec} {W:World} {b:Nat} {args:Array Value} {ds gs:List (DataW H')} {before:List MemPlace} {tb:TypeId} (hf:P.funcs[f]? =some fn) (hb:fn.body.isSome=true) (hname:(fn.name== "runtime.NumGoroutine")=false)
  (hg:GlobOK W.heap.size W) (hl:laidOutB P=true) (hts:(fn.params.toList.all fun t=>P.readableRec t&&decide (t<P.types.size)&&plainB P 8 t)=true) (hv:s.vars=[]) (hs:∀ds:List (DataW H'),ds.length=fn.params.size→s.fn H' ds={results:=[.lit (.bool true)],args:=ds})
  (hr:fn.resultTypes= #[tb]) (ht:P.underlying tb=some .bool) (hwalk:∀h avs,h.wf→ReadsAll P h fn.params.toList avs→ACalls P f avs h (fun r _=>r= .bool true))
  (hval:∀(j:Nat) t v,fn.params[j]? =some t→args[j]? =some v→Value.okWide P W .any b t v) (hW:DataW.Whole enc P fn.params.toList s.vars false W args.toList ds gs before):
  Calls P f args W fun e W'=>∃v,e= .returned v∧s.post enc P fn false true false false W args v W':=by
 have hall:∀t∈fn.params.toList,(P.readableRec t=true∧t<P.types.size)∧plainB P 8 t=true:=by
  intro t h
  have:=List.all_eq_true.1 hts t h
  simpa only[Bool.and_eq_true,decide_eq_true_eq] using this
 have hW':=hW
 have hlt:=hW.lt
 obtain⟨p,q,hA,hV,rfl,hfz,hnd⟩:=hW
 rw[hv] at hV
 obtain⟨rfl,rfl⟩:=trodVars_none hV
 have hd:=trodAll_length hA
 obtain⟨μ,h,us,_,R,_,hrel,hreads⟩:=absorb_args (fun t h=>(hall t h).2) hA (fun j t v ht hv=>hval j t v (by simpa using ht) (by simpa using hv)) (rep00 W hg)
 have hc:=law_calls hf hb hname R hrel (hwalk h us R.wf hreads)
 rw[show args.toList.toArray=args from by simp] at hc
 refine hc.mono ?_
 rintro e W' ⟨rfl,hB⟩
 have hsp:=hs ds (by simpa using hd)
 refine⟨_,rfl,post_kept (pa:=p) (pv:=[]) hW' (fun b sp hd=> ?_) (fun sp hsp'=> ?_) (fun sp _=> ?_) rfl hB ?_⟩
 ·rw[List.append_nil,hsp,hr]
  exact trodAll_cons_mk (shut_bool ht _) trodAll_mk0
 ·rw[List.append_nil,hsp]
  rw[List.append_nil] at hlt hsp'
  exact trodAll_stays hl (fun t h=>(hall t h).1) hA (fun x hx=>hB.same (hlt x hx)) (fun x hx=>hsp' x hx)
 ·rw[List.append_nil,hsp,hv]
  rfl
 ·exact ok_one hr rfl (okWide_bool_mk ht _)
end
end
section
set_option maxRecDepth 100000
section
variable {h:H} {u:AV}
theorem reads_bool (r:ReadsV Tryz.prog h 4 u):∃b:Bool,u= .bool b:=by
 have ht:=Tryz.underlying4
 unfold ReadsV at r
 rw[ht] at r
 cases r with
 |int ht' hw=>rw[ht] at ht';cases ht'
 |bool ht'=>exact⟨_,rfl⟩
 |str ht'=>rw[ht] at ht';cases ht'
 |snil ht'=>rw[ht] at ht';cases ht'
 |sl ht'=>rw[ht] at ht';cases ht'
 |struct ht'=>rw[ht] at ht';cases ht'
theorem cell_int {t:TypeId} {k:IntKind} (ht:Tryz.prog.underlying t=some (.int k)) {l:List AV} (r:Reads Tryz.prog h t l):∃n:Int,l=[.int k n]∧(Lit.int k n).wf=true:=by
 cases r with
 |int ht' hw=>rw[ht] at ht';injection ht' with e;injection e with e;subst e;exact⟨_,rfl,hw⟩
 |bool ht'=>rw[ht] at ht';cases ht'
 |str ht'=>rw[ht] at ht';cases ht'
 |snil ht'=>rw[ht] at ht';cases ht'
 |sl ht'=>rw[ht] at ht';cases ht'
 |struct ht'=>rw[ht] at ht';cases ht'
theorem cell_ints {t e:TypeId} {k:IntKind} (ht:Tryz.prog.underlying t=some (.slice e)) (he:Tryz.prog.underlying e=some (.int k)) (hz:Tryz.prog.cellsOf e=1) {l:List AV} (r:Reads Tryz.prog h t l):∃v xs,l=[v]∧IsW k h v xs∧(∀x∈xs,(Lit.int k x).wf=true)∧xs.length≤maxLen:=by
 cases r with
 |int ht' hw=>rw[ht] at ht';cases ht'
 |bool ht'=>rw[ht] at ht';cases ht'
 |str ht'=>rw[ht] at ht';cases ht'
 |snil ht'=>exact⟨_,[],rfl,⟨none,0,none,rfl, .inl ⟨rfl,rfl,rfl⟩⟩,fun x hx=>(by cases hx),by simp⟩
 |struct ht'=>rw[ht] at ht';cases ht'
 | @sl _ e' id len r ht' hr ho hlen hl hall=>
  rw[ht] at ht'
  injection ht' with e1
  injection e1 with e1
  subst e1
  rw[hz,Nat.mul_one] at hl
  have hall':∀i,(hi:i<len)→∃n:Int,r.cells[i]? =some (.int k n)∧(Lit.int k n).wf=true:=by
   intro i hi
   obtain⟨n,e2,hw⟩:=cell_int he (hall i hi)
   refine⟨n, ?_,hw⟩
   rw[hz,Nat.mul_one] at e2
   have:=congrArg (fun l=>l[0]?) e2
   simpa [List.getElem?_take,List.getElem?_drop] using this
  let xs:List Int:=r.cells.map fun v=>match v with| .int _ n=>n|_=>0
  have hx:∀i:Nat,i<len→∃n,r.cells[i]? =some (.int k n)∧xs[i]? =some n∧(Lit.int k n).wf=true:=by
   intro i hi
   obtain⟨n,h1,h2⟩:=hall' i hi
   exact⟨n,h1,by simp[xs,h1],h2⟩
  have hxl:xs.length=len:=by simp[xs,hl]
  refine⟨_,xs,rfl,⟨some id,0,none,by rw[hxl], .inr ⟨id,r,rfl,hr, .inl ho,by omega, ?_⟩⟩,fun x hm=> ?_,by rw[hxl];exact hlen⟩
  ·rw[List.drop_zero,List.take_of_length_le (by omega)]
   apply List.ext_getElem?
   intro i
   rw[W_get]
   rcases Nat.lt_or_ge i len with hi|hi
   ·obtain⟨n,h1,h2,_⟩:=hx i hi
    rw[h1,h2];rfl
   ·rw[List.getElem?_eq_none (by omega),List.getElem?_eq_none (by omega)];rfl
  ·obtain⟨i,hi,rfl⟩:=List.getElem_of_mem hm
   obtain⟨n,_,h2,h3⟩:=hx i (by omega)
   rw[List.getElem?_eq_getElem hi] at h2
   injection h2 with h2
   rw[h2]
   exact h3
theorem readsV_slice {t e:TypeId} (ht:Tryz.prog.underlying t=some (.slice e)) (r:ReadsV Tryz.prog h t u):Reads Tryz.prog h t [u]:=by
 unfold ReadsV at r
 rw[ht] at r
 exact r
theorem nats {xs:List Int} (hx:∀x∈xs,(Lit.int .u64 x).wf=true):∃ys:List Nat,xs=ys.map (fun n:Nat=>(n:Int))∧∀y∈ys,y<18446744073709551616:=by
 induction xs with
 |nil=>exact⟨[],rfl,by simp⟩
 |cons x xs ih=>
  obtain⟨ys,e,hy⟩:=ih (fun z hz=>hx z (by simp[hz]))
  obtain⟨m,rfl,hm⟩:=wf_u64 (hx x (by simp))
  refine⟨m::ys,by simp[e],fun y hy2=> ?_⟩
  rcases List.mem_cons.1 hy2 with rfl|h2
  ·exact hm
  ·exact hy y h2
theorem cell_words {t:TypeId} (ht:Tryz.prog.underlying t=some (.slice 73)) {l:List AV} (r:Reads Tryz.prog h t l):∃v xs,l=[v]∧IsN h v xs∧(∀x∈xs,x<18446744073709551616)∧xs.length≤maxLen:=by
 obtain⟨v,xs,rfl,h1,h2,h3⟩:=cell_ints ht Tryz.underlying73 (by kernel_rfl) r
 obtain⟨ys,rfl,hy⟩:=nats h2
 exact⟨v,ys,rfl,h1,hy,by simpa using h3⟩
end
end
def tuneCells (t:Tb):List AV:=[.int .i64 0, .int .i64 0, .int .i64 0]++t.cells
theorem New_calls {t:Tb} {h:H} {K:AV→H→Prop} (hk:∀id h',h'.wf→h.le h'→h.next≤id→h'.rows id=some ⟨some 168,14,tuneCells (clampT t)⟩→K (.ptr (some (id,0))) h'):ACalls Tryz.prog 161 [t.av] h K:=by
 refine in_table_New (by simp) fun hw=> ?_
 unfold c_table_New
 have hl1:=H.le_new hw (H.le_refl h) ⟨some 23,11,t.cells⟩
 simp only[go_sem,av_held,av_cells,cells_len,true_and,gsT (H.rows_new h _)]
 refine Clamp_calls fun h1 hw1 hl2=> ?_
 simp only[go_sem]
 simp only[bld14,go_sem]
 exact⟨rfl,fun hw'=>hk _ _ hw' (H.le_new hw1 (H.le_trans hl1 hl2) _) (Nat.le_trans (Nat.le_succ _) hl2.1) (H.rows_new _ _)⟩
theorem routeT_comm {t:Tb} {n m:Int}:routeT t n m=routeT t m n:=by
 unfold routeT
 rw[Int.max_comm,Int.min_comm]
 congr 1
 simp only[eq_iff_iff]
 omega
theorem costT_comm {t:Tb} {n m:Nat}:costT t n m=costT t m n:=by unfold costT;rw[Nat.max_comm,Nat.min_comm]
theorem costT_le {t:Tb} {n m:Nat} (hn:n≤16384) (hm:m≤16384):costT t n m≤8*(n*m):=by
 have:=cost_bound (clamp_isT t).ok 20000 (max n m) (min n m) (by omega) (by omega) (by omega)
 have e:max n m*min n m=n*m:=by
  rcases Nat.le_total n m with h|h
  ·rw[Nat.max_eq_right h,Nat.min_eq_left h,Nat.mul_comm]
  ·rw[Nat.max_eq_left h,Nat.min_eq_right h]
 rw[e] at this
 exact this
section
open Go
def c_polyz_New:AC:= .seq (.reg [o 1 (.box 23 (.t 0)),o 2 (.mv (.c (.ptr none)))]) (.seq (.reg [o 3 (.ld (some 11) (.t 1)),o 4 (.call 38 [.t 3]),o 5 (.bld [.ptr none] [(0,1, .t 4)]),o 6 (.box 79 (.t 5)),mv 2 6]) .ret)
theorem in_polyz_New:Ent 8 7 c_polyz_New [.t 2]:=ent Tryz.func8 rfl rfl rfl (show compile _ 7 _=_ by kernel_rfl) (show compRes _ 7 _=_ by kernel_rfl)
def c_polyz_Engine_Hand:AC:= .seq (.reg [o 6 (.mv (.c (.sl none 0 0 none)))]) (.seq (.reg [mv 12 1,o 13 (.call 43 [.t 12]),mv 14 2,o 15 (.call 43 [.t 14]),mv 1 13,mv 2 15]) (.seq (.seq (.reg [mv 16 1,o 17 (.len false (.t 16)),o 18 (.bin .eql (.t 17) (i64 0)),mv 19 18,og 20 19 false (.mv (.t 2)),og 21 19 false (.len false (.t 20)),og 22 19 false (.bin .eql (.t 21) (i64 0)),o 23 (.pick (.t 19) (.c (.bool true)) (.t 22))]) (.cond (.t 23) (.seq (.reg [o 6 (.mv (.c (.sl none 0 0 none)))]) .ret) .skip)) (.seq (.reg [mv 24 1,o 25 (.len false (.t 24)),mv 26 2,o 27 (.len false (.t 26)),bn 28 .add 25 27,o 29 (.bin .sub (.t 28) (i64 1)),o 30 (.mk 39 2 32 [.sl none 0 0 none, .bool false] (.t 29) (.t 29)),mv 7 30]) (.seq (.seq (.reg [mv 31 1,o 32 (.len false (.t 31)),o 33 (.mv (i64 0))]) (.block 0 (.loop (.seq (.reg [bn 34 .lss 33 32]) (.seq (.cond (.t 34) .skip (.exit 0)) (.seq (.block 1 (.seq (.reg [mv 35 33,o 36 (.idx 2 (.t 31) (.t 33)),o 37 (.ld (some 2) (.t 36)),o 9 (.alloc 39 [.sl none 0 0 none, .bool false]),mv 8 35,od (.st 2 (.t 9) (.t 37))]) (.seq (.reg [mv 38 2,o 39 (.len false (.t 38)),o 40 (.mv (i64 0))]) (.block 2 (.loop (.seq (.reg [bn 41 .lss 40 39]) (.seq (.cond (.t 41) .skip (.exit 2)) (.seq (.block 3 (.seq (.reg [mv 42 40,o 43 (.idx 2 (.t 38) (.t 40)),o 44 (.ld (some 2) (.t 43)),o 11 (.alloc 39 [.sl none 0 0 none, .bool false]),mv 10 42,od (.st 2 (.t 11) (.t 44))]) (.reg [mv 45 7,mv 46 8,mv 47 10,bn 48 .add 46 47,mv 49 7,mv 50 8,mv 51 10,bn 52 .add 50 51,o 53 (.idx 2 (.t 49) (.t 52)),o 54 (.ld (some 2) (.t 53)),mv 55 0,o 56 (.ld (some 2) (.t 9)),o 57 (.ld (some 2) (.t 11)),⟨some 58,none, .call 45 [.t 55, .t 56, .t 57],[(some 54,none, .ld (some 2) (.t 53))]⟩,o 59 (.call 44 [.t 54, .t 58]),o 60 (.idx 2 (.t 45) (.t 48)),od (.st 2 (.t 60) (.t 59))]))) (.reg [o 61 (.bin .add (.t 40) (i64 1)),mv 40 61]))))))))) (.reg [o 62 (.bin .add (.t 33) (i64 1)),mv 33 62]))))))) (.seq (.reg [mv 63 7,o 64 (.call 43 [.t 63]),mv 6 64]) .ret)))))
theorem in_polyz_Engine_Hand:Ent 11 65 c_polyz_Engine_Hand [.t 6]:=ent Tryz.func11 rfl rfl rfl (show compile _ 65 _=_ by kernel_rfl) (show compRes _ 65 _=_ by kernel_rfl)
def c_polyz_Engine_At:AC:= .seq (.reg [o 6 (.mv (.c (.sl none 0 0 none)))]) (.seq (.reg [o 7 (.mv (.c (.sl none 0 0 none)))]) (.seq (.seq (.reg [mv 10 2,o 11 (.len false (.t 10)),o 12 (.mv (i64 0))]) (.block 0 (.loop (.seq (.reg [bn 13 .lss 12 11]) (.seq (.cond (.t 13) .skip (.exit 0)) (.seq (.block 1 (.seq (.reg [o 14 (.idx 2 (.t 10) (.t 12)),o 15 (.ld (some 2) (.t 14)),o 9 (.alloc 39 [.sl none 0 0 none, .bool false]),od (.st 2 (.t 9) (.t 15))]) (.reg [mv 16 7,mv 17 0,mv 18 1,o 19 (.ld (some 2) (.t 9)),o 20 (.call 49 [.t 17, .t 18, .t 19]),o 21 (.bsl 39 2 1 [.sl none 0 0 none, .bool false] [(0, .t 20)]),o 22 (.app 39 2 32 (.t 16) (.t 21)),mv 7 22]))) (.reg [o 23 (.bin .add (.t 12) (i64 1)),mv 12 23]))))))) (.seq (.reg [mv 24 7,mv 6 24]) .ret)))
theorem in_polyz_Engine_At:Ent 15 25 c_polyz_Engine_At [.t 6]:=ent Tryz.func15 rfl rfl rfl (show compile _ 25 _=_ by kernel_rfl) (show compRes _ 25 _=_ by kernel_rfl)
def c_polyz_Engine_Scale:AC:= .seq (.reg [o 5 (.box 39 (.t 2)),o 6 (.mv (.c (.sl none 0 0 none)))]) (.seq (.reg [mv 10 1,o 11 (.len false (.t 10)),o 12 (.mk 39 2 32 [.sl none 0 0 none, .bool false] (.t 11) (.t 11)),mv 7 12]) (.seq (.seq (.reg [mv 13 1,o 14 (.len false (.t 13)),o 15 (.mv (i64 0))]) (.block 0 (.loop (.seq (.reg [bn 16 .lss 15 14]) (.seq (.cond (.t 16) .skip (.exit 0)) (.seq (.block 1 (.seq (.reg [mv 17 15,o 18 (.idx 2 (.t 13) (.t 15)),o 19 (.ld (some 2) (.t 18)),o 9 (.alloc 39 [.sl none 0 0 none, .bool false]),mv 8 17,od (.st 2 (.t 9) (.t 19))]) (.reg [mv 20 7,mv 21 8,mv 22 0,o 23 (.ld (some 2) (.t 9)),o 24 (.ld (some 2) (.t 5)),o 25 (.call 45 [.t 22, .t 23, .t 24]),o 26 (.idx 2 (.t 20) (.t 21)),od (.st 2 (.t 26) (.t 25))]))) (.reg [o 27 (.bin .add (.t 15) (i64 1)),mv 15 27]))))))) (.seq (.reg [mv 28 7,o 29 (.call 43 [.t 28]),mv 6 29]) .ret)))
theorem in_polyz_Engine_Scale:Ent 21 30 c_polyz_Engine_Scale [.t 6]:=ent Tryz.func21 rfl rfl rfl (show compile _ 30 _=_ by kernel_rfl) (show compRes _ 30 _=_ by kernel_rfl)
def c_polyz_Engine_Over:AC:= .seq (.reg [o 5 (.box 39 (.t 2)),o 6 (.mv (.c (.sl none 0 0 none))),o 7 (.mv (i64 0))]) (.seq (.seq (.reg [o 13 (.fld 0 (.t 5)),o 14 (.ld none (.t 13)),o 15 (.call 54 [.t 14])]) (.cond (.t 15) (.seq (.reg [o 6 (.mv (.c (.sl none 0 0 none))),o 7 (.mv (i64 2))]) .ret) .skip)) (.seq (.reg [o 8 (.mv (.c (.sl none 0 0 none)))]) (.seq (.seq (.reg [mv 16 1,o 17 (.call 43 [.t 16]),o 18 (.len false (.t 17)),o 19 (.mv (i64 0))]) (.block 0 (.loop (.seq (.reg [bn 20 .lss 19 18]) (.seq (.cond (.t 20) .skip (.exit 0)) (.seq (.block 1 (.seq (.reg [o 21 (.idx 2 (.t 17) (.t 19)),o 22 (.ld (some 2) (.t 21)),o 10 (.alloc 39 [.sl none 0 0 none, .bool false]),od (.st 2 (.t 10) (.t 22))]) (.seq (.regt [mv 24 0,o 25 (.nn (.t 24)),o 26 (.fld 0 (.t 25)),o 27 (.ld none (.t 26)),o 28 (.nn (.t 27)),o 29 (.fld 0 (.t 28)),o 30 (.ld none (.t 29)),o 31 (.nn (.t 30)),o 32 (.fld 0 (.t 31)),o 33 (.ld none (.t 32)),o 34 (.nn (.t 33)),o 35 (.fld 0 (.t 34)),o 36 (.ld none (.t 35)),o 37 (.nn (.t 36)),o 38 (.fld 0 (.t 37)),o 39 (.ld none (.t 38)),o 40 (.ld (some 2) (.t 10)),o 41 (.ld (some 2) (.t 5))] (.alt (o 42 (.call 55 [.t 39, .t 40, .t 41])) [mv 23 42,o 43 (.ext (.t 23) 0),o 44 (.ext (.t 23) 1)] (.alt (⟨some 11,none, .alloc 39 [.sl none 0 0 none, .bool false],[(some 27,none, .ld none (.t 26)),(some 30,none, .ld none (.t 29)),(some 33,none, .ld none (.t 32)),(some 36,none, .ld none (.t 35)),(some 39,none, .ld none (.t 38)),(some 40,none, .ld (some 2) (.t 10)),(some 41,none, .ld (some 2) (.t 5))]⟩) [] (.alt (od (.st 2 (.t 11) (.t 43))) [mv 12 44] .fin .no) .no) (.alt (⟨some 11,none, .alloc 39 [.sl none 0 0 none, .bool false],[(some 27,none, .ld none (.t 26)),(some 30,none, .ld none (.t 29)),(some 33,none, .ld none (.t 32)),(some 36,none, .ld none (.t 35)),(some 39,none, .ld none (.t 38)),(some 40,none, .ld (some 2) (.t 10)),(some 41,none, .ld (some 2) (.t 5))]⟩) [] (.alt (o 42 (.call 55 [.t 39, .t 40, .t 41])) [mv 23 42,o 43 (.ext (.t 23) 0),o 44 (.ext (.t 23) 1)] (.alt (od (.st 2 (.t 11) (.t 43))) [mv 12 44] .fin .no) .no) .no))) (.seq (.seq (.reg [mv 45 12,o 46 (.bin .neq (.t 45) (i64 0))]) (.cond (.t 46) (.seq (.reg [mv 47 12,o 6 (.mv (.c (.sl none 0 0 none))),mv 7 47]) .ret) .skip)) (.reg [mv 48 8,o 49 (.ld (some 2) (.t 11)),o 50 (.bsl 39 2 1 [.sl none 0 0 none, .bool false] [(0, .t 49)]),o 51 (.app 39 2 32 (.t 48) (.t 50)),mv 8 51]))))) (.reg [o 52 (.bin .add (.t 19) (i64 1)),mv 19 52]))))))) (.seq (.reg [mv 53 8,mv 6 53,o 7 (.mv (i64 0))]) .ret))))
theorem in_polyz_Engine_Over:Ent 23 54 c_polyz_Engine_Over [.t 6, .t 7]:=ent Tryz.func23 rfl rfl rfl (show compile _ 54 _=_ by kernel_rfl) (show compRes _ 54 _=_ by kernel_rfl)
def c_polyz_trim:AC:= .seq (.reg [o 2 (.mv (.c (.sl none 0 0 none)))]) (.seq (.block 0 (.loop (.seq (.seq (.reg [mv 3 0,o 4 (.len false (.t 3)),o 5 (.bin .gtr (.t 4) (i64 0)),mv 6 5,og 7 6 true (.mv (.t 0)),og 8 6 true (.mv (.t 0)),og 9 6 true (.len false (.t 8)),og 10 6 true (.bin .sub (.t 9) (i64 1)),og 11 6 true (.idx 2 (.t 7) (.t 10)),og 12 6 true (.fld 0 (.t 11)),og 13 6 true (.ld none (.t 12)),og 14 6 true (.call 54 [.t 13]),o 15 (.pick (.t 6) (.t 14) (.c (.bool false)))]) (.cond (.t 15) .skip (.exit 0))) (.block 1 (.reg [mv 16 0,mv 17 0,o 18 (.len false (.t 17)),o 19 (.bin .sub (.t 18) (i64 1)),o 20 (.slc 2 (.t 16) none (some (.t 19))),mv 0 20]))))) (.seq (.reg [mv 21 0,mv 2 21]) .ret))
theorem in_polyz_trim:Ent 43 22 c_polyz_trim [.t 2]:=ent Tryz.func43 rfl rfl rfl (show compile _ 22 _=_ by kernel_rfl) (show compRes _ 22 _=_ by kernel_rfl)
def c_polyz_Engine_product:AC:= .seq (.reg [o 4 (.box 39 (.t 1)),o 5 (.box 39 (.t 2)),o 6 (.alloc 39 [.sl none 0 0 none, .bool false])]) (.seq (.reg [mv 8 0,o 9 (.nn (.t 8)),o 10 (.fld 0 (.t 9)),o 11 (.ld none (.t 10)),o 12 (.nn (.t 11)),o 13 (.fld 0 (.t 12)),o 14 (.ld none (.t 13)),o 15 (.nn (.t 14)),o 16 (.fld 0 (.t 15)),o 17 (.ld none (.t 16)),o 18 (.nn (.t 17)),o 19 (.fld 0 (.t 18)),o 20 (.ld none (.t 19)),o 21 (.nn (.t 20)),o 22 (.fld 0 (.t 21)),o 23 (.ld none (.t 22)),o 24 (.nn (.t 23)),o 25 (.fld 0 (.t 24)),o 26 (.ld none (.t 25)),o 27 (.nn (.t 26)),o 28 (.fld 0 (.t 27)),o 29 (.ld none (.t 28)),o 30 (.nn (.t 29)),o 31 (.fld 0 (.t 30)),o 32 (.ld none (.t 31)),o 33 (.nn (.t 32)),o 34 (.fld 0 (.t 33)),o 35 (.ld none (.t 34)),o 36 (.nn (.t 35)),o 37 (.fld 0 (.t 36)),o 38 (.ld none (.t 37)),o 39 (.nn (.t 38)),o 40 (.fld 0 (.t 39)),o 41 (.ld none (.t 40)),o 42 (.fld 0 (.t 4)),o 43 (.ld none (.t 42)),o 44 (.fld 0 (.t 5)),o 45 (.ld none (.t 44)),o 46 (.call 60 [.t 41, .t 43, .t 45]),mv 7 46]) (.seq (.reg [mv 47 7,o 48 (.fld 1 (.t 4)),o 49 (.ld none (.t 48)),o 50 (.fld 1 (.t 5)),o 51 (.ld none (.t 50)),o 52 (.beq true (.t 49) (.t 51)),mv 53 52,og 54 53 true (.mv (.t 7)),og 55 53 true (.call 54 [.t 54]),og 56 53 true (.un .not (.t 55)),o 57 (.pick (.t 53) (.t 56) (.c (.bool false))),o 58 (.bld [.sl none 0 0 none, .bool false] [(0,1, .t 47),(1,1, .t 57)]),od (.st 2 (.t 6) (.t 58))]) .ret))
theorem in_polyz_Engine_product:Ent 45 59 c_polyz_Engine_product [.c 6 (some 2)]:=ent Tryz.func45 rfl rfl rfl (show compile _ 59 _=_ by kernel_rfl) (show compRes _ 59 _=_ by kernel_rfl)
def c_polyz_Height:AC:= .seq (.reg [o 2 (.mv (i64 0))]) (.seq (.reg [o 3 (.mv (i64 0))]) (.seq (.seq (.reg [mv 6 0,o 7 (.len false (.t 6)),o 8 (.mv (i64 0))]) (.block 0 (.loop (.seq (.reg [bn 9 .lss 8 7]) (.seq (.cond (.t 9) .skip (.exit 0)) (.seq (.block 1 (.seq (.reg [o 10 (.idx 2 (.t 6) (.t 8)),o 11 (.ld (some 2) (.t 10)),o 5 (.alloc 39 [.sl none 0 0 none, .bool false]),od (.st 2 (.t 5) (.t 11))]) (.reg [mv 12 3,o 13 (.fld 0 (.t 5)),o 14 (.ld none (.t 13)),o 15 (.call 64 [.t 14]),o 16 (.mnx true (.t 12) [.t 15]),mv 3 16]))) (.reg [o 17 (.bin .add (.t 8) (i64 1)),mv 8 17]))))))) (.seq (.reg [mv 18 3,mv 2 18]) .ret)))
theorem in_polyz_Height:Ent 46 19 c_polyz_Height [.t 2]:=ent Tryz.func46 rfl rfl rfl (show compile _ 19 _=_ by kernel_rfl) (show compRes _ 19 _=_ by kernel_rfl)
def c_polyz_Deg:AC:= .seq (.reg [o 2 (.mv (i64 0))]) (.seq (.reg [mv 3 0,o 4 (.call 43 [.t 3]),o 5 (.len false (.t 4)),o 6 (.bin .sub (.t 5) (i64 1)),mv 2 6]) .ret)
theorem in_polyz_Deg:Ent 48 7 c_polyz_Deg [.t 2]:=ent Tryz.func48 rfl rfl rfl (show compile _ 7 _=_ by kernel_rfl) (show compRes _ 7 _=_ by kernel_rfl)
def c_polyz_Engine_value:AC:= .seq (.reg [o 5 (.box 39 (.t 2)),o 6 (.alloc 39 [.sl none 0 0 none, .bool false])]) (.seq (.reg [o 9 (.bld [.sl none 0 0 none, .bool false] []),o 7 (.alloc 39 [.sl none 0 0 none, .bool false]),od (.st 2 (.t 7) (.t 9))]) (.seq (.seq (.reg [mv 10 1,o 11 (.len false (.t 10)),o 12 (.bin .sub (.t 11) (i64 1)),mv 8 12]) (.block 0 (.loop (.seq (.seq (.reg [mv 13 8,o 14 (.bin .geq (.t 13) (i64 0))]) (.cond (.t 14) .skip (.exit 0))) (.seq (.block 1 (.reg [mv 17 0,o 18 (.ld (some 2) (.t 7)),o 19 (.ld (some 2) (.t 5)),mv 21 1,mv 22 8,o 23 (.idx 2 (.t 21) (.t 22)),o 24 (.ld (some 2) (.t 23)),⟨some 20,none, .call 45 [.t 17, .t 18, .t 19],[(some 24,none, .ld (some 2) (.t 23))]⟩,o 25 (.call 44 [.t 20, .t 24]),od (.st 2 (.t 7) (.t 25))])) (.reg [mv 15 8,o 16 (.bin .sub (.t 15) (i64 1)),mv 8 16])))))) (.seq (.reg [o 26 (.ld (some 2) (.t 7)),o 27 (.call 76 [.t 26]),od (.st 2 (.t 6) (.t 27))]) .ret)))
theorem in_polyz_Engine_value:Ent 49 28 c_polyz_Engine_value [.c 6 (some 2)]:=ent Tryz.func49 rfl rfl rfl (show compile _ 28 _=_ by kernel_rfl) (show compRes _ 28 _=_ by kernel_rfl)
def c_ref28_Same:AC:= .seq (.reg [o 4 (.mv (.c (.bool false)))]) (.seq (.reg [mv 7 0,o 8 (.call 22 [.t 7]),mv 5 8]) (.seq (.seq (.reg [mv 9 5,o 10 (.len false (.t 9)),mv 11 1,o 12 (.len false (.t 11)),bn 13 .neq 10 12]) (.cond (.t 13) (.seq (.reg [o 4 (.mv (.c (.bool false)))]) .ret) .skip)) (.seq (.seq (.reg [o 6 (.mv (i64 0))]) (.block 0 (.loop (.seq (.seq (.reg [mv 14 6,mv 15 5,o 16 (.len false (.t 15)),bn 17 .lss 14 16]) (.cond (.t 17) .skip (.exit 0))) (.seq (.block 1 (.seq (.reg [mv 20 5,mv 21 6,o 22 (.idx 2 (.t 20) (.t 21)),o 23 (.fld 1 (.t 22)),o 24 (.ld none (.t 23)),mv 25 1,mv 26 6,o 27 (.idx 2 (.t 25) (.t 26)),o 28 (.fld 1 (.t 27)),o 29 (.ld none (.t 28)),o 30 (.beq true (.t 24) (.t 29)),mv 31 30,og 32 31 false (.mv (.t 0)),og 33 31 false (.mv (.t 6)),og 34 31 false (.idx 2 (.t 32) (.t 33)),og 35 31 false (.fld 0 (.t 34)),og 36 31 false (.ld none (.t 35)),og 37 31 false (.mv (.t 1)),og 38 31 false (.mv (.t 6)),og 39 31 false (.idx 2 (.t 37) (.t 38)),og 40 31 false (.fld 0 (.t 39)),og 41 31 false (.ld none (.t 40)),og 42 31 false (.call 39 [.t 36, .t 41]),og 43 31 false (.un .not (.t 42)),o 44 (.pick (.t 31) (.c (.bool true)) (.t 43))]) (.cond (.t 44) (.seq (.reg [o 4 (.mv (.c (.bool false)))]) .ret) .skip))) (.reg [mv 18 6,o 19 (.bin .add (.t 18) (i64 1)),mv 6 19])))))) (.seq (.reg [o 4 (.mv (.c (.bool true)))]) .ret))))
theorem in_ref28_Same:Ent 9 45 c_ref28_Same [.t 4]:=ent Tryz.func9 rfl rfl rfl (show compile _ 45 _=_ by kernel_rfl) (show compRes _ 45 _=_ by kernel_rfl)
def c_ref28_Mul:AC:= .seq (.reg [o 4 (.mv (.c (.sl none 0 0 none)))]) (.seq (.seq (.reg [mv 8 0,o 9 (.len false (.t 8)),o 10 (.bin .eql (.t 9) (i64 0)),mv 11 10,og 12 11 false (.mv (.t 1)),og 13 11 false (.len false (.t 12)),og 14 11 false (.bin .eql (.t 13) (i64 0)),o 15 (.pick (.t 11) (.c (.bool true)) (.t 14))]) (.cond (.t 15) (.seq (.reg [o 4 (.mv (.c (.sl none 0 0 none)))]) .ret) .skip)) (.seq (.reg [mv 16 0,o 17 (.len false (.t 16)),mv 18 1,o 19 (.len false (.t 18)),bn 20 .add 17 19,o 21 (.bin .sub (.t 20) (i64 1)),o 22 (.mk 47 2 32 [.sl none 0 0 none, .bool false] (.t 21) (.t 21)),mv 5 22]) (.seq (.seq (.reg [o 6 (.mv (i64 0))]) (.block 0 (.loop (.seq (.seq (.reg [mv 23 6,mv 24 0,o 25 (.len false (.t 24)),bn 26 .lss 23 25]) (.cond (.t 26) .skip (.exit 0))) (.seq (.block 1 (.seq (.reg [o 7 (.mv (i64 0))]) (.block 2 (.loop (.seq (.seq (.reg [mv 29 7,mv 30 1,o 31 (.len false (.t 30)),bn 32 .lss 29 31]) (.cond (.t 32) .skip (.exit 2))) (.seq (.block 3 (.reg [mv 35 5,mv 36 6,mv 37 7,bn 38 .add 36 37,mv 39 5,mv 40 6,mv 41 7,bn 42 .add 40 41,o 43 (.idx 2 (.t 39) (.t 42)),o 44 (.ld (some 2) (.t 43)),mv 45 0,mv 46 6,o 47 (.idx 2 (.t 45) (.t 46)),o 48 (.ld (some 2) (.t 47)),mv 49 1,mv 50 7,o 51 (.idx 2 (.t 49) (.t 50)),o 52 (.ld (some 2) (.t 51)),⟨some 53,none, .call 41 [.t 48, .t 52],[(some 44,none, .ld (some 2) (.t 43))]⟩,o 54 (.call 40 [.t 44, .t 53]),o 55 (.idx 2 (.t 35) (.t 38)),od (.st 2 (.t 55) (.t 54))])) (.reg [mv 33 7,o 34 (.bin .add (.t 33) (i64 1)),mv 7 34]))))))) (.reg [mv 27 6,o 28 (.bin .add (.t 27) (i64 1)),mv 6 28])))))) (.seq (.reg [mv 56 5,o 57 (.call 42 [.t 56]),mv 4 57]) .ret))))
theorem in_ref28_Mul:Ent 10 58 c_ref28_Mul [.t 4]:=ent Tryz.func10 rfl rfl rfl (show compile _ 58 _=_ by kernel_rfl) (show compRes _ 58 _=_ by kernel_rfl)
def c_ref28_At:AC:= .seq (.reg [o 3 (.box 47 (.t 1)),o 4 (.alloc 47 [.sl none 0 0 none, .bool false])]) (.seq (.reg [o 5 (.alloc 47 [.sl none 0 0 none, .bool false])]) (.seq (.seq (.reg [mv 7 0,o 8 (.len false (.t 7)),o 9 (.bin .sub (.t 8) (i64 1)),mv 6 9]) (.block 0 (.loop (.seq (.seq (.reg [mv 10 6,o 11 (.bin .geq (.t 10) (i64 0))]) (.cond (.t 11) .skip (.exit 0))) (.seq (.block 1 (.reg [o 14 (.ld (some 2) (.t 5)),o 15 (.ld (some 2) (.t 3)),mv 17 0,mv 18 6,o 19 (.idx 2 (.t 17) (.t 18)),o 20 (.ld (some 2) (.t 19)),⟨some 16,none, .call 41 [.t 14, .t 15],[(some 20,none, .ld (some 2) (.t 19))]⟩,o 21 (.call 40 [.t 16, .t 20]),od (.st 2 (.t 5) (.t 21))])) (.reg [mv 12 6,o 13 (.bin .sub (.t 12) (i64 1)),mv 6 13])))))) (.seq (.reg [o 22 (.ld (some 2) (.t 5)),od (.st 2 (.t 4) (.t 22))]) .ret)))
theorem in_ref28_At:Ent 18 23 c_ref28_At [.c 4 (some 2)]:=ent Tryz.func18 rfl rfl rfl (show compile _ 23 _=_ by kernel_rfl) (show compRes _ 23 _=_ by kernel_rfl)
def c_ref28_Scale:AC:= .seq (.reg [o 3 (.box 47 (.t 1)),o 4 (.mv (.c (.sl none 0 0 none)))]) (.seq (.reg [o 5 (.mv (.c (.sl none 0 0 none)))]) (.seq (.seq (.reg [o 6 (.mv (i64 0))]) (.block 0 (.loop (.seq (.seq (.reg [mv 7 6,mv 8 0,o 9 (.len false (.t 8)),bn 10 .lss 7 9]) (.cond (.t 10) .skip (.exit 0))) (.seq (.block 1 (.reg [mv 13 5,mv 14 0,mv 15 6,o 16 (.idx 2 (.t 14) (.t 15)),o 17 (.ld (some 2) (.t 16)),o 18 (.ld (some 2) (.t 3)),o 19 (.call 41 [.t 17, .t 18]),o 20 (.bsl 47 2 1 [.sl none 0 0 none, .bool false] [(0, .t 19)]),o 21 (.app 47 2 32 (.t 13) (.t 20)),mv 5 21])) (.reg [mv 11 6,o 12 (.bin .add (.t 11) (i64 1)),mv 6 12])))))) (.seq (.reg [mv 22 5,o 23 (.call 42 [.t 22]),mv 4 23]) .ret)))
theorem in_ref28_Scale:Ent 20 24 c_ref28_Scale [.t 4]:=ent Tryz.func20 rfl rfl rfl (show compile _ 24 _=_ by kernel_rfl) (show compRes _ 24 _=_ by kernel_rfl)
def c_ref28_To:AC:= .seq (.reg [o 2 (.mv (.c (.sl none 0 0 none)))]) (.seq (.reg [o 3 (.mv (.c (.sl none 0 0 none)))]) (.seq (.seq (.reg [o 4 (.mv (i64 0))]) (.block 0 (.loop (.seq (.seq (.reg [mv 5 4,mv 6 0,o 7 (.len false (.t 6)),bn 8 .lss 5 7]) (.cond (.t 8) .skip (.exit 0))) (.seq (.block 1 (.reg [mv 11 3,mv 12 0,mv 13 4,o 14 (.idx 2 (.t 12) (.t 13)),o 15 (.ld (some 2) (.t 14)),o 16 (.call 17 [.t 15]),o 17 (.bsl 39 2 1 [.sl none 0 0 none, .bool false] [(0, .t 16)]),o 18 (.app 39 2 32 (.t 11) (.t 17)),mv 3 18])) (.reg [mv 9 4,o 10 (.bin .add (.t 9) (i64 1)),mv 4 10])))))) (.seq (.reg [mv 19 3,mv 2 19]) .ret)))
theorem in_ref28_To:Ent 22 20 c_ref28_To [.t 2]:=ent Tryz.func22 rfl rfl rfl (show compile _ 20 _=_ by kernel_rfl) (show compRes _ 20 _=_ by kernel_rfl)
def c_ref28_Over:AC:= .seq (.reg [o 3 (.box 47 (.t 1)),o 4 (.mv (.c (.sl none 0 0 none))),o 5 (.mv (.c (.bool false)))]) (.seq (.reg [o 6 (.mv (.c (.sl none 0 0 none)))]) (.seq (.seq (.reg [o 7 (.mv (i64 0))]) (.block 0 (.loop (.seq (.seq (.reg [mv 10 7,mv 11 0,o 12 (.len false (.t 11)),bn 13 .lss 10 12]) (.cond (.t 13) .skip (.exit 0))) (.seq (.block 1 (.seq (.regt [mv 17 0,mv 18 7,o 19 (.idx 2 (.t 17) (.t 18)),o 20 (.ld (some 2) (.t 19)),o 21 (.ld (some 2) (.t 3))] (.alt (o 22 (.call 57 [.t 20, .t 21])) [mv 16 22,o 23 (.ext (.t 16) 0),o 24 (.ext (.t 16) 1)] (.alt (⟨some 8,none, .alloc 47 [.sl none 0 0 none, .bool false],[(some 20,none, .ld (some 2) (.t 19)),(some 21,none, .ld (some 2) (.t 3))]⟩) [] (.alt (⟨some 9,none, .alloc 47 [.sl none 0 0 none, .bool false],[(some 20,none, .ld (some 2) (.t 19)),(some 21,none, .ld (some 2) (.t 3))]⟩) [] (.alt (od (.st 2 (.t 8) (.t 23))) [] (.alt (od (.st 2 (.t 9) (.t 24))) [] .fin .no) .no) .no) (.alt (⟨some 9,none, .alloc 47 [.sl none 0 0 none, .bool false],[(some 20,none, .ld (some 2) (.t 19)),(some 21,none, .ld (some 2) (.t 3))]⟩) [] (.alt (⟨some 8,none, .alloc 47 [.sl none 0 0 none, .bool false],[(some 20,none, .ld (some 2) (.t 19)),(some 21,none, .ld (some 2) (.t 3))]⟩) [] (.alt (od (.st 2 (.t 8) (.t 23))) [] (.alt (od (.st 2 (.t 9) (.t 24))) [] .fin .no) .no) .no) .no)) (.alt (⟨some 8,none, .alloc 47 [.sl none 0 0 none, .bool false],[(some 20,none, .ld (some 2) (.t 19)),(some 21,none, .ld (some 2) (.t 3))]⟩) [] (.alt (o 22 (.call 57 [.t 20, .t 21])) [mv 16 22,o 23 (.ext (.t 16) 0),o 24 (.ext (.t 16) 1)] (.alt (⟨some 9,none, .alloc 47 [.sl none 0 0 none, .bool false],[(some 20,none, .ld (some 2) (.t 19)),(some 21,none, .ld (some 2) (.t 3))]⟩) [] (.alt (od (.st 2 (.t 8) (.t 23))) [] (.alt (od (.st 2 (.t 9) (.t 24))) [] .fin .no) .no) .no) (.alt (⟨some 9,none, .alloc 47 [.sl none 0 0 none, .bool false],[(some 20,none, .ld (some 2) (.t 19)),(some 21,none, .ld (some 2) (.t 3))]⟩) [] (.alt (o 22 (.call 57 [.t 20, .t 21])) [mv 16 22,o 23 (.ext (.t 16) 0),o 24 (.ext (.t 16) 1)] (.alt (od (.st 2 (.t 8) (.t 23))) [] (.alt (od (.st 2 (.t 9) (.t 24))) [] .fin .no) .no) .no) .no)) (.alt (⟨some 9,none, .alloc 47 [.sl none 0 0 none, .bool false],[(some 20,none, .ld (some 2) (.t 19)),(some 21,none, .ld (some 2) (.t 3))]⟩) [] (.alt (o 22 (.call 57 [.t 20, .t 21])) [mv 16 22,o 23 (.ext (.t 16) 0),o 24 (.ext (.t 16) 1)] (.alt (⟨some 8,none, .alloc 47 [.sl none 0 0 none, .bool false],[(some 20,none, .ld (some 2) (.t 19)),(some 21,none, .ld (some 2) (.t 3))]⟩) [] (.alt (od (.st 2 (.t 8) (.t 23))) [] (.alt (od (.st 2 (.t 9) (.t 24))) [] .fin .no) .no) .no) (.alt (⟨some 8,none, .alloc 47 [.sl none 0 0 none, .bool false],[(some 20,none, .ld (some 2) (.t 19)),(some 21,none, .ld (some 2) (.t 3))]⟩) [] (.alt (o 22 (.call 57 [.t 20, .t 21])) [mv 16 22,o 23 (.ext (.t 16) 0),o 24 (.ext (.t 16) 1)] (.alt (od (.st 2 (.t 8) (.t 23))) [] (.alt (od (.st 2 (.t 9) (.t 24))) [] .fin .no) .no) .no) .no)) .no)))) (.seq (.seq (.reg [o 25 (.ld (some 2) (.t 9)),o 26 (.call 24 [.t 25]),o 27 (.un .not (.t 26))]) (.cond (.t 27) (.seq (.reg [o 4 (.mv (.c (.sl none 0 0 none))),o 5 (.mv (.c (.bool false)))]) .ret) .skip)) (.reg [mv 28 6,o 29 (.ld (some 2) (.t 8)),o 30 (.bsl 47 2 1 [.sl none 0 0 none, .bool false] [(0, .t 29)]),o 31 (.app 47 2 32 (.t 28) (.t 30)),mv 6 31])))) (.reg [mv 14 7,o 15 (.bin .add (.t 14) (i64 1)),mv 7 15])))))) (.seq (.reg [mv 32 6,mv 4 32,o 5 (.mv (.c (.bool true)))]) .ret)))
theorem in_ref28_Over:Ent 25 33 c_ref28_Over [.t 4, .t 5]:=ent Tryz.func25 rfl rfl rfl (show compile _ 33 _=_ by kernel_rfl) (show compRes _ 33 _=_ by kernel_rfl)
def c_ref28_From:AC:= .seq (.reg [o 2 (.mv (.c (.sl none 0 0 none)))]) (.seq (.reg [o 3 (.mv (.c (.sl none 0 0 none)))]) (.seq (.seq (.reg [o 4 (.mv (i64 0))]) (.block 0 (.loop (.seq (.seq (.reg [mv 5 4,mv 6 0,o 7 (.len false (.t 6)),bn 8 .lss 5 7]) (.cond (.t 8) .skip (.exit 0))) (.seq (.block 1 (.reg [mv 11 3,mv 12 0,mv 13 4,o 14 (.idx 2 (.t 12) (.t 13)),o 15 (.ld (some 2) (.t 14)),o 16 (.call 19 [.t 15]),o 17 (.bsl 47 2 1 [.sl none 0 0 none, .bool false] [(0, .t 16)]),o 18 (.app 47 2 32 (.t 11) (.t 17)),mv 3 18])) (.reg [mv 9 4,o 10 (.bin .add (.t 9) (i64 1)),mv 4 10])))))) (.seq (.reg [mv 19 3,o 20 (.call 42 [.t 19]),mv 2 20]) .ret)))
theorem in_ref28_From:Ent 37 21 c_ref28_From [.t 2]:=ent Tryz.func37 rfl rfl rfl (show compile _ 21 _=_ by kernel_rfl) (show compRes _ 21 _=_ by kernel_rfl)
def c_ref28_norm:AC:= .seq (.reg [o 2 (.mv (.c (.sl none 0 0 none)))]) (.seq (.reg [mv 4 0,o 5 (.len false (.t 4)),mv 3 5]) (.seq (.block 0 (.loop (.seq (.seq (.reg [mv 6 3,o 7 (.bin .gtr (.t 6) (i64 0)),mv 8 7,og 9 8 true (.mv (.t 0)),og 10 8 true (.mv (.t 3)),og 11 8 true (.bin .sub (.t 10) (i64 1)),og 12 8 true (.idx 2 (.t 9) (.t 11)),og 13 8 true (.ld (some 2) (.t 12)),og 14 8 true (.call 24 [.t 13]),o 15 (.pick (.t 8) (.t 14) (.c (.bool false)))]) (.cond (.t 15) .skip (.exit 0))) (.block 1 (.reg [mv 16 3,o 17 (.bin .sub (.t 16) (i64 1)),mv 3 17]))))) (.seq (.reg [mv 18 0,mv 19 3,o 20 (.slc 2 (.t 18) none (some (.t 19))),mv 2 20]) .ret)))
theorem in_ref28_norm:Ent 42 21 c_ref28_norm [.t 2]:=ent Tryz.func42 rfl rfl rfl (show compile _ 21 _=_ by kernel_rfl) (show compRes _ 21 _=_ by kernel_rfl)
def c_law28_PolyzHands:AC:= .seq (.reg [o 3 (.box 23 (.t 0)),o 6 (.mv (.c (.bool false)))]) (.seq (.reg [mv 11 1,o 12 (.call 7 [.t 11,i64 12,i64 4]),mv 10 12,o 13 (.ext (.t 10) 0),o 14 (.ext (.t 10) 1),mv 1 13,mv 7 14]) (.seq (.reg [mv 16 2,o 17 (.call 7 [.t 16,i64 12,i64 4]),mv 15 17,o 18 (.ext (.t 15) 0),o 19 (.ext (.t 15) 1),mv 2 18,mv 8 19]) (.seq (.reg [o 20 (.ld (some 11) (.t 3)),o 21 (.call 8 [.t 20]),mv 9 21]) (.seq (.reg [mv 22 9,o 23 (.peq true (.t 22) (.c (.ptr none))),mv 24 23,og 25 24 true (.mv (.t 7)),og 26 24 true (.mv (.t 8)),og 27 24 true (.call 10 [.t 25, .t 26]),og 28 24 true (.mv (.t 9)),og 29 24 true (.mv (.t 1)),og 30 24 true (.mv (.t 2)),og 31 24 true (.call 11 [.t 28, .t 29, .t 30]),og 32 24 true (.call 9 [.t 27, .t 31]),o 33 (.pick (.t 24) (.t 32) (.c (.bool false))),mv 34 33,og 35 34 true (.call 12 []),o 36 (.pick (.t 34) (.t 35) (.c (.bool false))),mv 6 36]) .ret))))
theorem in_law28_PolyzHands:Ent 3 37 c_law28_PolyzHands [.t 6]:=ent Tryz.func3 rfl rfl rfl (show compile _ 37 _=_ by kernel_rfl) (show compRes _ 37 _=_ by kernel_rfl)
def c_law28_PolyzValues:AC:= .seq (.reg [o 4 (.box 23 (.t 0)),o 6 (.box 39 (.t 2)),o 8 (.mv (.c (.bool false)))]) (.seq (.reg [mv 14 1,o 15 (.call 7 [.t 14,i64 12,i64 3]),mv 13 15,o 16 (.ext (.t 13) 0),o 17 (.ext (.t 13) 1),mv 1 16,mv 9 17]) (.seq (.reg [o 18 (.ld (some 2) (.t 6)),o 19 (.call 13 [.t 18,i64 3]),mv 20 3,o 21 (.call 14 [.t 20,i64 6,i64 2]),od (.st 2 (.t 6) (.t 19)),mv 3 21]) (.seq (.reg [o 22 (.ld (some 11) (.t 4)),o 23 (.call 8 [.t 22]),mv 10 23]) (.seq (.seq (.reg [mv 24 10,o 25 (.peq false (.t 24) (.c (.ptr none)))]) (.cond (.t 25) (.seq (.reg [o 8 (.mv (.c (.bool false)))]) .ret) .skip)) (.seq (.reg [mv 26 10,mv 27 1,mv 28 3,o 29 (.call 15 [.t 26, .t 27, .t 28]),mv 11 29]) (.seq (.seq (.reg [mv 30 11,o 31 (.len false (.t 30)),mv 32 3,o 33 (.len false (.t 32)),bn 34 .neq 31 33]) (.cond (.t 34) (.seq (.reg [o 8 (.mv (.c (.bool false)))]) .ret) .skip)) (.seq (.seq (.reg [o 12 (.mv (i64 0))]) (.block 0 (.loop (.seq (.seq (.reg [mv 35 12,mv 36 3,o 37 (.len false (.t 36)),bn 38 .lss 35 37]) (.cond (.t 38) .skip (.exit 0))) (.seq (.block 1 (.seq (.reg [mv 41 11,mv 42 12,o 43 (.idx 2 (.t 41) (.t 42)),o 44 (.ld (some 2) (.t 43)),mv 45 9,mv 46 3,mv 47 12,o 48 (.idx 2 (.t 46) (.t 47)),o 49 (.ld (some 2) (.t 48)),⟨some 50,none, .call 19 [.t 49],[(some 44,none, .ld (some 2) (.t 43))]⟩,⟨some 51,none, .call 18 [.t 45, .t 50],[(some 44,none, .ld (some 2) (.t 43))]⟩,⟨some 52,none, .call 17 [.t 51],[(some 44,none, .ld (some 2) (.t 43))]⟩,o 53 (.call 16 [.t 44, .t 52]),o 54 (.un .not (.t 53))]) (.cond (.t 54) (.seq (.reg [o 8 (.mv (.c (.bool false)))]) .ret) .skip))) (.reg [mv 39 12,o 40 (.bin .add (.t 39) (i64 1)),mv 12 40])))))) (.seq (.reg [mv 55 9,o 56 (.ld (some 2) (.t 6)),mv 59 10,mv 60 1,o 61 (.ld (some 2) (.t 6)),⟨some 57,none, .call 19 [.t 56],[(some 61,none, .ld (some 2) (.t 6))]⟩,⟨some 58,none, .call 20 [.t 55, .t 57],[(some 61,none, .ld (some 2) (.t 6))]⟩,o 62 (.call 21 [.t 59, .t 60, .t 61]),o 63 (.call 9 [.t 58, .t 62]),mv 64 63,og 65 64 true (.call 12 []),o 66 (.pick (.t 64) (.t 65) (.c (.bool false))),mv 8 66]) .ret))))))))
theorem in_law28_PolyzValues:Ent 4 67 c_law28_PolyzValues [.t 8]:=ent Tryz.func4 rfl rfl rfl (show compile _ 67 _=_ by kernel_rfl) (show compRes _ 67 _=_ by kernel_rfl)
def c_law28_PolyzOvers:AC:= .seq (.reg [o 4 (.box 23 (.t 0)),o 6 (.box 39 (.t 2)),o 8 (.mv (.c (.bool false)))]) (.seq (.reg [mv 17 1,o 18 (.call 7 [.t 17,i64 12,i64 3]),mv 16 18,o 19 (.ext (.t 16) 0),o 20 (.ext (.t 16) 1),mv 1 19,mv 9 20]) (.seq (.reg [o 21 (.ld (some 2) (.t 6)),o 22 (.call 13 [.t 21,i64 2]),od (.st 2 (.t 6) (.t 22))]) (.seq (.reg [o 23 (.ld (some 2) (.t 6)),o 24 (.call 19 [.t 23]),o 10 (.alloc 47 [.sl none 0 0 none, .bool false]),od (.st 2 (.t 10) (.t 24))]) (.seq (.seq (.reg [mv 25 3]) (.cond (.t 25) (.seq (.reg [mv 26 9,o 27 (.ld (some 2) (.t 10)),o 28 (.call 20 [.t 26, .t 27]),mv 9 28]) (.reg [mv 29 9,o 30 (.call 22 [.t 29]),mv 1 30])) .skip)) (.seq (.reg [o 31 (.ld (some 11) (.t 4)),o 32 (.call 8 [.t 31]),mv 11 32]) (.seq (.seq (.reg [mv 33 11,o 34 (.peq false (.t 33) (.c (.ptr none)))]) (.cond (.t 34) (.seq (.reg [o 8 (.mv (.c (.bool false)))]) .ret) .skip)) (.seq (.reg [mv 36 11,mv 37 1,o 38 (.ld (some 2) (.t 6)),o 39 (.call 23 [.t 36, .t 37, .t 38]),mv 35 39,o 40 (.ext (.t 35) 0),o 41 (.ext (.t 35) 1),mv 12 40,mv 13 41]) (.seq (.seq (.reg [o 42 (.ld (some 2) (.t 10)),o 43 (.call 24 [.t 42])]) (.cond (.t 43) (.seq (.reg [mv 44 13,o 45 (.bin .eql (.t 44) (i64 2)),mv 46 45,og 47 46 true (.mv (.t 12)),og 48 46 true (.len false (.t 47)),og 49 46 true (.bin .eql (.t 48) (i64 0)),o 50 (.pick (.t 46) (.t 49) (.c (.bool false))),mv 51 50,og 52 51 true (.call 12 []),o 53 (.pick (.t 51) (.t 52) (.c (.bool false))),mv 8 53]) .ret) .skip)) (.seq (.reg [mv 55 9,o 56 (.ld (some 2) (.t 10)),o 57 (.call 25 [.t 55, .t 56]),mv 54 57,o 58 (.ext (.t 54) 0),o 59 (.ext (.t 54) 1),mv 14 58,mv 15 59]) (.seq (.seq (.reg [mv 60 15,o 61 (.un .not (.t 60))]) (.cond (.t 61) (.seq (.reg [mv 62 13,o 63 (.bin .eql (.t 62) (i64 5)),mv 64 63,og 65 64 true (.mv (.t 12)),og 66 64 true (.len false (.t 65)),og 67 64 true (.bin .eql (.t 66) (i64 0)),o 68 (.pick (.t 64) (.t 67) (.c (.bool false))),mv 69 68,og 70 69 true (.call 12 []),o 71 (.pick (.t 69) (.t 70) (.c (.bool false))),mv 8 71]) .ret) .skip)) (.seq (.reg [mv 72 13,o 73 (.bin .eql (.t 72) (i64 0)),mv 74 73,og 75 74 true (.mv (.t 14)),og 76 74 true (.mv (.t 12)),og 77 74 true (.call 9 [.t 75, .t 76]),o 78 (.pick (.t 74) (.t 77) (.c (.bool false))),mv 79 78,og 80 79 true (.call 12 []),o 81 (.pick (.t 79) (.t 80) (.c (.bool false))),mv 8 81]) .ret)))))))))))
theorem in_law28_PolyzOvers:Ent 5 82 c_law28_PolyzOvers [.t 8]:=ent Tryz.func5 rfl rfl rfl (show compile _ 82 _=_ by kernel_rfl) (show compRes _ 82 _=_ by kernel_rfl)
def c_law28_cut:AC:= .seq (.reg [o 6 (.mv (.c (.sl none 0 0 none))),o 7 (.mv (.c (.sl none 0 0 none)))]) (.seq (.reg [mv 8 0,mv 9 1,mv 10 2,o 11 (.call 14 [.t 8, .t 9, .t 10]),mv 0 11]) (.seq (.reg [mv 12 0,mv 13 0,o 14 (.call 37 [.t 13]),mv 6 12,mv 7 14]) .ret))
theorem in_law28_cut:Ent 7 15 c_law28_cut [.t 6, .t 7]:=ent Tryz.func7 rfl rfl rfl (show compile _ 15 _=_ by kernel_rfl) (show compRes _ 15 _=_ by kernel_rfl)
def c_law28_wakes:AC:= .seq (.reg [o 0 (.mv (.c (.bool false)))]) (.seq (.reg [o 2 (.bld [.int .i64 0, .int .i64 0, .int .i64 0, .int .i64 0, .int .i64 0, .int .i64 0, .int .i64 0, .int .i64 0, .int .i64 0, .int .i64 0, .int .i64 0] []),o 3 (.call 8 [.t 2]),mv 1 3]) (.seq (.reg [mv 4 1,o 5 (.peq true (.t 4) (.c (.ptr none))),mv 6 5,og 7 6 true (.call 47 [i64 3]),og 8 6 true (.call 47 [i64 (-4)]),og 9 6 true (.bsl 39 2 2 [.sl none 0 0 none, .bool false] [(0, .t 7),(1, .t 8)]),og 10 6 true (.call 46 [.t 9]),og 11 6 true (.bin .eql (.t 10) (i64 3)),o 12 (.pick (.t 6) (.t 11) (.c (.bool false))),mv 13 12,og 14 13 true (.call 48 [.c (.sl none 0 0 none)]),og 15 13 true (.bin .eql (.t 14) (i64 (-1))),o 16 (.pick (.t 13) (.t 15) (.c (.bool false))),mv 0 16]) .ret))
theorem in_law28_wakes:Ent 12 17 c_law28_wakes [.t 0]:=ent Tryz.func12 rfl rfl rfl (show compile _ 17 _=_ by kernel_rfl) (show compRes _ 17 _=_ by kernel_rfl)
def c_divs_Engine_Long:AC:= .seq (.reg [o 6 (.mv (.c (.sl none 0 0 none))),o 7 (.mv (.c (.sl none 0 0 none))),o 8 (.mv (i64 0))]) (.seq (.reg [mv 21 1,o 22 (.call 62 [.t 21]),mv 23 2,o 24 (.call 62 [.t 23]),mv 9 22,mv 10 24]) (.seq (.seq (.reg [mv 25 10,o 26 (.bin .eql (.t 25) (i64 0))]) (.cond (.t 26) (.seq (.reg [o 6 (.mv (.c (.sl none 0 0 none))),o 7 (.mv (.c (.sl none 0 0 none))),o 8 (.mv (i64 2))]) .ret) .skip)) (.seq (.seq (.reg [mv 27 9,mv 28 10,bn 29 .lss 27 28]) (.cond (.t 29) (.seq (.reg [mv 30 1,o 31 (.call 63 [.t 30]),o 6 (.mv (.c (.sl none 0 0 none))),mv 7 31,o 8 (.mv (i64 0))]) .ret) .skip)) (.seq (.reg [mv 32 0,o 33 (.nn (.t 32)),o 34 (.fld 0 (.t 33)),o 35 (.ld none (.t 34)),o 36 (.nn (.t 35)),o 37 (.fld 0 (.t 36)),o 38 (.ld none (.t 37)),o 39 (.nn (.t 38)),o 40 (.fld 0 (.t 39)),o 41 (.ld none (.t 40)),o 42 (.nn (.t 41)),o 43 (.fld 0 (.t 42)),o 44 (.ld none (.t 43)),o 45 (.nn (.t 44)),o 46 (.fld 0 (.t 45)),o 47 (.ld none (.t 46)),o 48 (.nn (.t 47)),o 49 (.fld 0 (.t 48)),mv 50 9,mv 51 10,bn 52 .sub 50 51,o 53 (.bin .add (.t 52) (i64 1)),mv 54 10,o 55 (.bin .add (.t 54) (i64 1)),bn 56 .mul 53 55,o 57 (.call 101 [.t 49, .t 56])]) (.seq (.seq (.reg [mv 58 10,o 59 (.bin .eql (.t 58) (i64 1))]) (.cond (.t 59) (.seq (.reg [mv 61 1,mv 62 2,o 63 (.idx 1 (.t 62) (i64 0)),o 64 (.ld none (.t 63)),o 65 (.call 69 [.t 61, .t 64]),mv 60 65,o 66 (.ext (.t 60) 0),o 67 (.ext (.t 60) 1),o 68 (.ext (.t 60) 2),mv 11 66,mv 12 67,mv 13 68]) (.seq (.reg [mv 69 11,mv 70 12,o 71 (.call 65 [.t 70]),mv 6 69,mv 7 71,o 8 (.mv (i64 0))]) .ret)) .skip)) (.seq (.reg [mv 72 2,mv 73 10,o 74 (.bin .sub (.t 73) (i64 1)),o 75 (.idx 1 (.t 72) (.t 74)),o 76 (.ld none (.t 75)),o 77 (.call 102 [.t 76]),mv 14 77]) (.seq (.reg [mv 78 2,mv 79 14,o 80 (.call 66 [.t 78, .t 79]),mv 15 80]) (.seq (.reg [mv 81 9,o 82 (.bin .add (.t 81) (i64 1)),o 83 (.mk 73 1 8 [.int .u64 0] (.t 82) (.t 82)),mv 16 83]) (.seq (.reg [mv 84 16,mv 85 1,mv 86 14,o 87 (.call 66 [.t 85, .t 86]),o 88 (.cpy 1 (.t 84) (.t 87))]) (.seq (.reg [mv 90 15,mv 91 10,o 92 (.bin .sub (.t 91) (i64 1)),o 93 (.idx 1 (.t 90) (.t 92)),o 94 (.ld none (.t 93)),mv 95 15,mv 96 10,o 97 (.bin .sub (.t 96) (i64 2)),o 98 (.idx 1 (.t 95) (.t 97)),o 99 (.ld none (.t 98)),o 100 (.call 103 [.t 94, .t 99]),mv 89 100,o 101 (.ext (.t 89) 0),o 102 (.ext (.t 89) 1),mv 17 101,mv 18 102]) (.seq (.reg [mv 103 9,mv 104 10,bn 105 .sub 103 104,o 106 (.bin .add (.t 105) (i64 1)),o 107 (.mk 73 1 8 [.int .u64 0] (.t 106) (.t 106)),mv 19 107]) (.seq (.seq (.reg [mv 108 9,mv 109 10,bn 110 .sub 108 109,mv 20 110]) (.block 0 (.loop (.seq (.seq (.reg [mv 111 20,o 112 (.bin .geq (.t 111) (i64 0))]) (.cond (.t 112) .skip (.exit 0))) (.seq (.block 1 (.reg [mv 115 19,mv 116 20,mv 117 16,mv 118 20,mv 119 20,mv 120 10,bn 121 .add 119 120,o 122 (.bin .add (.t 121) (i64 1)),o 123 (.slc 1 (.t 117) (some (.t 118)) (some (.t 122))),mv 124 15,mv 125 17,o 126 (.call 104 [.t 123, .t 124, .t 125]),o 127 (.idx 1 (.t 115) (.t 116)),od (.st 1 (.t 127) (.t 126))])) (.reg [mv 113 20,o 114 (.bin .sub (.t 113) (i64 1)),mv 20 114])))))) (.seq (.reg [mv 128 19,o 129 (.call 63 [.t 128]),mv 130 16,mv 131 14,o 132 (.call 105 [.t 130, .t 131]),mv 6 129,mv 7 132,o 8 (.mv (i64 0))]) .ret)))))))))))))
theorem in_divs_Engine_Long:Ent 86 133 c_divs_Engine_Long [.t 6, .t 7, .t 8]:=ent Tryz.func86 rfl rfl rfl (show compile _ 133 _=_ by kernel_rfl) (show compRes _ 133 _=_ by kernel_rfl)
def c_divs_New:AC:= .seq (.reg [o 1 (.box 23 (.t 0)),o 2 (.mv (.c (.ptr none)))]) (.seq (.reg [o 3 (.ld (some 11) (.t 1)),o 4 (.call 111 [.t 3]),o 5 (.bld [.ptr none] [(0,1, .t 4)]),o 6 (.box 124 (.t 5)),mv 2 6]) .ret)
theorem in_divs_New:Ent 96 7 c_divs_New [.t 2]:=ent Tryz.func96 rfl rfl rfl (show compile _ 7 _=_ by kernel_rfl) (show compRes _ 7 _=_ by kernel_rfl)
def c_divs_digit:AC:= .seq (.reg [o 6 (.mv (u64 0))]) (.seq (.reg [mv 20 1,o 21 (.len false (.t 20)),mv 7 21]) (.seq (.reg [mv 23 0,mv 24 7,o 25 (.idx 1 (.t 23) (.t 24)),o 26 (.ld none (.t 25)),mv 27 0,mv 28 7,o 29 (.bin .sub (.t 28) (i64 1)),o 30 (.idx 1 (.t 27) (.t 29)),o 31 (.ld none (.t 30)),mv 32 0,mv 33 7,o 34 (.bin .sub (.t 33) (i64 2)),o 35 (.idx 1 (.t 32) (.t 34)),o 36 (.ld none (.t 35)),mv 37 1,mv 38 7,o 39 (.bin .sub (.t 38) (i64 1)),o 40 (.idx 1 (.t 37) (.t 39)),o 41 (.ld none (.t 40)),mv 42 1,mv 43 7,o 44 (.bin .sub (.t 43) (i64 2)),o 45 (.idx 1 (.t 42) (.t 44)),o 46 (.ld none (.t 45)),mv 47 2,o 48 (.call 119 [.t 26, .t 31, .t 36, .t 41, .t 46, .t 47]),mv 22 48,o 49 (.ext (.t 22) 0),o 50 (.ext (.t 22) 1),o 51 (.ext (.t 22) 2),o 52 (.ext (.t 22) 3),mv 8 49,mv 9 50,mv 10 51,mv 11 52]) (.seq (.seq (.reg [mv 53 11,o 54 (.un .not (.t 53))]) (.cond (.t 54) (.reg [o 8 (.mv (u64 18446744073709551615))]) .skip)) (.seq (.reg [o 12 (.mv (u64 0))]) (.seq (.seq (.reg [o 13 (.mv (i64 0))]) (.block 0 (.loop (.seq (.seq (.reg [mv 55 13,mv 56 7,bn 57 .lss 55 56]) (.cond (.t 57) .skip (.exit 0))) (.seq (.block 1 (.seq (.reg [mv 61 8,mv 62 1,mv 63 13,o 64 (.idx 1 (.t 62) (.t 63)),o 65 (.ld none (.t 64)),o 66 (.call 90 [.t 61, .t 65]),mv 60 66,o 67 (.ext (.t 60) 0),o 68 (.ext (.t 60) 1),mv 14 67,mv 15 68]) (.seq (.reg [mv 70 15,mv 71 12,o 72 (.call 91 [.t 70, .t 71,u64 0]),mv 69 72,o 73 (.ext (.t 69) 0),o 74 (.ext (.t 69) 1),mv 15 73,mv 16 74]) (.seq (.reg [mv 75 14,mv 76 16,bn 77 .add 75 76,mv 14 77]) (.seq (.reg [mv 79 0,mv 80 13,mv 81 0,mv 82 13,o 83 (.idx 1 (.t 81) (.t 82)),o 84 (.ld none (.t 83)),mv 85 15,o 86 (.call 81 [.t 84, .t 85,u64 0]),mv 78 86,o 87 (.ext (.t 78) 0),o 88 (.ext (.t 78) 1),o 89 (.idx 1 (.t 79) (.t 80)),od (.st 1 (.t 89) (.t 87)),mv 16 88]) (.reg [mv 90 14,mv 91 16,bn 92 .add 90 91,mv 12 92])))))) (.reg [mv 58 13,o 59 (.bin .add (.t 58) (i64 1)),mv 13 59])))))) (.seq (.reg [mv 94 0,mv 95 7,o 96 (.idx 1 (.t 94) (.t 95)),o 97 (.ld none (.t 96)),mv 98 12,o 99 (.call 81 [.t 97, .t 98,u64 0]),mv 93 99,o 100 (.ext (.t 93) 0),o 101 (.ext (.t 93) 1),mv 17 100,mv 18 101]) (.seq (.reg [mv 102 0,mv 103 7,mv 104 17,o 105 (.idx 1 (.t 102) (.t 103)),od (.st 1 (.t 105) (.t 104))]) (.seq (.block 2 (.loop (.seq (.seq (.reg [mv 106 18,o 107 (.bin .neq (.t 106) (u64 0))]) (.cond (.t 107) .skip (.exit 2))) (.block 3 (.seq (.reg [mv 108 8,o 109 (.bin .sub (.t 108) (u64 1)),mv 8 109]) (.seq (.reg [o 12 (.mv (u64 0))]) (.seq (.seq (.reg [o 19 (.mv (i64 0))]) (.block 4 (.loop (.seq (.seq (.reg [mv 110 19,mv 111 7,bn 112 .lss 110 111]) (.cond (.t 112) .skip (.exit 4))) (.seq (.block 5 (.reg [mv 116 0,mv 117 19,mv 118 0,mv 119 19,o 120 (.idx 1 (.t 118) (.t 119)),o 121 (.ld none (.t 120)),mv 122 1,mv 123 19,o 124 (.idx 1 (.t 122) (.t 123)),o 125 (.ld none (.t 124)),mv 126 12,o 127 (.call 91 [.t 121, .t 125, .t 126]),mv 115 127,o 128 (.ext (.t 115) 0),o 129 (.ext (.t 115) 1),o 130 (.idx 1 (.t 116) (.t 117)),od (.st 1 (.t 130) (.t 128)),mv 12 129])) (.reg [mv 113 19,o 114 (.bin .add (.t 113) (i64 1)),mv 19 114])))))) (.seq (.reg [mv 132 0,mv 133 7,mv 134 0,mv 135 7,o 136 (.idx 1 (.t 134) (.t 135)),o 137 (.ld none (.t 136)),mv 138 12,o 139 (.call 91 [.t 137,u64 0, .t 138]),mv 131 139,o 140 (.ext (.t 131) 0),o 141 (.ext (.t 131) 1),o 142 (.idx 1 (.t 132) (.t 133)),od (.st 1 (.t 142) (.t 140)),mv 12 141]) (.reg [mv 143 18,mv 144 12,bn 145 .sub 143 144,mv 18 145]))))))))) (.seq (.reg [mv 146 8,mv 6 146]) .ret)))))))))
theorem in_divs_digit:Ent 104 147 c_divs_digit [.t 6]:=ent Tryz.func104 rfl rfl rfl (show compile _ 147 _=_ by kernel_rfl) (show compRes _ 147 _=_ by kernel_rfl)
def c_mul_Engine_Mul:AC:= .seq (.reg [o 6 (.mv (.c (.sl none 0 0 none)))]) (.seq (.reg [mv 7 0,mv 8 1,o 9 (.call 83 [.t 8]),mv 10 2,o 11 (.call 83 [.t 10]),o 12 (.call 82 [.t 7, .t 9, .t 11]),mv 6 12]) .ret)
theorem in_mul_Engine_Mul:Ent 60 13 c_mul_Engine_Mul [.t 6]:=ent Tryz.func60 rfl rfl rfl (show compile _ 13 _=_ by kernel_rfl) (show compRes _ 13 _=_ by kernel_rfl)
def c_mul_Engine_times:AC:= .seq (.reg [o 6 (.mv (.c (.sl none 0 0 none)))]) (.seq (.seq (.reg [mv 9 1,o 10 (.len false (.t 9)),o 11 (.bin .gtr (.t 10) (i64 16384)),mv 12 11,og 13 12 false (.mv (.t 2)),og 14 12 false (.len false (.t 13)),og 15 12 false (.bin .gtr (.t 14) (i64 16384)),o 16 (.pick (.t 12) (.c (.bool true)) (.t 15))]) (.cond (.t 16) (.seq (.reg [mv 17 0,mv 18 1,mv 19 2,o 20 (.call 97 [.t 17, .t 18, .t 19]),mv 6 20]) .ret) .skip)) (.seq (.reg [mv 22 0,mv 23 0,o 24 (.nn (.t 23)),o 25 (.fld 0 (.t 24)),o 26 (.ld none (.t 25)),o 27 (.nn (.t 26)),o 28 (.fld 0 (.t 27)),o 29 (.ld none (.t 28)),o 30 (.nn (.t 29)),o 31 (.fld 0 (.t 30)),o 32 (.ld none (.t 31)),o 33 (.nn (.t 32)),o 34 (.fld 0 (.t 33)),o 35 (.ld none (.t 34)),mv 36 1,o 37 (.len false (.t 36)),mv 38 2,o 39 (.len false (.t 38)),o 40 (.call 99 [.t 35, .t 37, .t 39]),mv 41 1,mv 42 2,o 43 (.call 98 [.t 22, .t 40, .t 41, .t 42]),mv 21 43,o 44 (.ext (.t 21) 0),o 45 (.ext (.t 21) 1),mv 7 44,mv 8 45]) (.seq (.seq (.reg [mv 46 8,o 47 (.un .not (.t 46))]) (.cond (.t 47) (.seq (.reg [mv 48 0,o 49 (.nn (.t 48)),o 50 (.fld 0 (.t 49)),o 51 (.ld none (.t 50)),o 52 (.nn (.t 51)),o 53 (.fld 0 (.t 52)),o 54 (.ld none (.t 53)),o 55 (.nn (.t 54)),o 56 (.fld 0 (.t 55)),o 57 (.ld none (.t 56)),mv 58 1,mv 59 2,o 60 (.call 100 [.t 57, .t 58, .t 59]),mv 6 60]) .ret) .skip)) (.seq (.reg [mv 61 7,mv 6 61]) .ret))))
theorem in_mul_Engine_times:Ent 82 62 c_mul_Engine_times [.t 6]:=ent Tryz.func82 rfl rfl rfl (show compile _ 62 _=_ by kernel_rfl) (show compRes _ 62 _=_ by kernel_rfl)
def c_mul_words:AC:= .seq (.reg [o 2 (.mv (.c (.sl none 0 0 none)))]) (.seq (.reg [mv 3 0,mv 4 0,o 5 (.call 62 [.t 4]),o 6 (.slc 1 (.t 3) none (some (.t 5))),mv 2 6]) .ret)
theorem in_mul_words:Ent 83 7 c_mul_words [.t 2]:=ent Tryz.func83 rfl rfl rfl (show compile _ 7 _=_ by kernel_rfl) (show compRes _ 7 _=_ by kernel_rfl)
def c_mul_Engine_gone:AC:= .seq (.reg [o 8 (.mv (.c (.sl none 0 0 none))),o 9 (.mv (.c (.bool false)))]) (.seq (.seq (.reg [mv 10 1]) (.block 0 (.seq (.reg [o 12 (.bin .eql (.t 10) (i64 0)),mv 11 12]) (.cond (.t 11) (.seq (.reg [o 8 (.mv (.c (.sl none 0 0 none))),o 9 (.mv (.c (.bool true)))]) .ret) (.seq (.reg [o 14 (.bin .eql (.t 10) (i64 1)),mv 13 14]) (.cond (.t 13) (.seq (.reg [mv 15 0,o 16 (.nn (.t 15)),o 17 (.fld 0 (.t 16)),o 18 (.ld none (.t 17)),o 19 (.nn (.t 18)),o 20 (.fld 0 (.t 19)),o 21 (.ld none (.t 20)),o 22 (.nn (.t 21)),o 23 (.fld 0 (.t 22)),o 24 (.ld none (.t 23)),mv 25 2,mv 26 3,o 27 (.call 100 [.t 24, .t 25, .t 26]),mv 8 27,o 9 (.mv (.c (.bool true)))]) .ret) (.seq (.reg [o 29 (.bin .eql (.t 10) (i64 2)),mv 28 29]) (.cond (.t 28) (.seq (.reg [mv 30 0,mv 31 2,mv 32 3,o 33 (.call 113 [.t 30, .t 31, .t 32]),mv 8 33,o 9 (.mv (.c (.bool true)))]) .ret) (.seq (.reg [o 35 (.bin .eql (.t 10) (i64 3)),mv 34 35]) (.cond (.t 34) (.seq (.reg [mv 36 0,o 37 (.nn (.t 36)),o 38 (.fld 0 (.t 37)),o 39 (.ld none (.t 38)),o 40 (.nn (.t 39)),o 41 (.fld 0 (.t 40)),o 42 (.ld none (.t 41)),mv 43 2,mv 44 3,mv 45 0,o 46 (.mkf 82 [.t 45] []),o 47 (.call 114 [.t 42, .t 43, .t 44, .t 46]),o 48 (.ext (.t 47) 0),o 49 (.ext (.t 47) 1),mv 8 48,mv 9 49]) .ret) (.seq (.reg [o 51 (.bin .eql (.t 10) (i64 4)),mv 50 51]) (.cond (.t 50) (.seq (.reg [mv 52 0,o 53 (.nn (.t 52)),o 54 (.fld 0 (.t 53)),o 55 (.ld none (.t 54)),mv 56 2,mv 57 3,mv 58 0,o 59 (.mkf 82 [.t 58] []),o 60 (.call 115 [.t 55, .t 56, .t 57, .t 59]),o 61 (.ext (.t 60) 0),o 62 (.ext (.t 60) 1),mv 8 61,mv 9 62]) .ret) (.seq (.reg [o 64 (.bin .eql (.t 10) (i64 5)),mv 63 64]) (.cond (.t 63) (.seq (.reg [mv 65 0,o 66 (.nn (.t 65)),o 67 (.fld 0 (.t 66)),o 68 (.ld none (.t 67)),o 69 (.nn (.t 68)),o 70 (.fld 0 (.t 69)),o 71 (.ld none (.t 70)),o 72 (.nn (.t 71)),o 73 (.fld 0 (.t 72)),o 74 (.ld none (.t 73)),o 75 (.nn (.t 74)),o 76 (.fld 0 (.t 75)),o 77 (.ld none (.t 76)),o 78 (.nn (.t 77)),o 79 (.fld 0 (.t 78)),mv 80 2,mv 81 3,o 82 (.call 116 [.t 79, .t 80, .t 81]),o 83 (.ext (.t 82) 0),o 84 (.ext (.t 82) 1),mv 8 83,mv 9 84]) .ret) .skip)))))))))))))) (.seq (.reg [o 8 (.mv (.c (.sl none 0 0 none))),o 9 (.mv (.c (.bool false)))]) .ret))
theorem in_mul_Engine_gone:Ent 98 85 c_mul_Engine_gone [.t 8, .t 9]:=ent Tryz.func98 rfl rfl rfl (show compile _ 85 _=_ by kernel_rfl) (show compRes _ 85 _=_ by kernel_rfl)
def c_mul_New:AC:= .seq (.reg [o 1 (.box 23 (.t 0)),o 2 (.mv (.c (.ptr none)))]) (.seq (.reg [o 3 (.ld (some 11) (.t 1)),o 4 (.call 126 [.t 3]),o 5 (.bld [.ptr none] [(0,1, .t 4)]),o 6 (.box 155 (.t 5)),mv 2 6]) .ret)
theorem in_mul_New:Ent 111 7 c_mul_New [.t 2]:=ent Tryz.func111 rfl rfl rfl (show compile _ 7 _=_ by kernel_rfl) (show compRes _ 7 _=_ by kernel_rfl)
def c_mul_Engine_pieces:AC:= .seq (.reg [o 8 (.mv (.c (.sl none 0 0 none)))]) (.seq (.seq (.reg [mv 11 1,o 12 (.len false (.t 11)),mv 13 2,o 14 (.len false (.t 13)),bn 15 .lss 12 14]) (.cond (.t 15) (.reg [mv 16 2,mv 17 1,mv 1 16,mv 2 17]) .skip)) (.seq (.reg [o 9 (.mv (.c (.sl none 0 0 none)))]) (.seq (.seq (.reg [o 10 (.mv (i64 0))]) (.block 0 (.loop (.seq (.seq (.reg [mv 18 10,mv 19 1,o 20 (.len false (.t 19)),bn 21 .lss 18 20]) (.cond (.t 21) .skip (.exit 0))) (.seq (.block 1 (.reg [mv 25 9,mv 26 0,mv 27 1,mv 28 10,mv 29 1,o 30 (.len false (.t 29)),mv 31 10,mv 32 3,bn 33 .add 31 32,o 34 (.mnx false (.t 30) [.t 33]),o 35 (.slc 1 (.t 27) (some (.t 28)) (some (.t 34))),o 36 (.app 73 1 8 (.c (.sl none 0 0 none)) (.t 35)),mv 37 2,o 38 (.call 82 [.t 26, .t 36, .t 37]),o 39 (.bsl 37 1 1 [.sl none 0 0 none] [(0, .t 38)]),o 40 (.app 37 1 24 (.t 25) (.t 39)),mv 9 40])) (.reg [mv 22 10,mv 23 3,bn 24 .add 22 23,mv 10 24])))))) (.seq (.reg [mv 41 3,mv 42 9,o 43 (.call 108 [.t 41, .t 42]),mv 8 43]) .ret))))
theorem in_mul_Engine_pieces:Ent 112 44 c_mul_Engine_pieces [.t 8]:=ent Tryz.func112 rfl rfl rfl (show compile _ 44 _=_ by kernel_rfl) (show compRes _ 44 _=_ by kernel_rfl)
def c_mul_Engine_block:AC:= .seq (.reg [o 6 (.mv (.c (.sl none 0 0 none)))]) (.seq (.reg [mv 8 0,o 9 (.nn (.t 8)),o 10 (.fld 0 (.t 9)),o 11 (.ld none (.t 10)),o 12 (.nn (.t 11)),o 13 (.fld 0 (.t 12)),o 14 (.ld none (.t 13)),o 15 (.nn (.t 14)),o 16 (.fld 0 (.t 15)),o 17 (.ld none (.t 16)),o 18 (.nn (.t 17)),o 19 (.fld 0 (.t 18)),o 20 (.ld none (.t 19)),o 21 (.nn (.t 20)),o 22 (.fld 0 (.t 21)),o 23 (.call 121 [.t 22])]) (.seq (.reg [mv 24 0,mv 25 1,mv 26 2,mv 27 1,o 28 (.len false (.t 27)),mv 29 2,o 30 (.len false (.t 29)),o 31 (.mnx false (.t 28) [.t 30]),o 32 (.call 112 [.t 24, .t 25, .t 26, .t 31]),mv 7 32]) (.seq (.reg [mv 33 0,o 34 (.nn (.t 33)),o 35 (.fld 0 (.t 34)),o 36 (.ld none (.t 35)),o 37 (.nn (.t 36)),o 38 (.fld 0 (.t 37)),o 39 (.ld none (.t 38)),o 40 (.nn (.t 39)),o 41 (.fld 0 (.t 40)),o 42 (.ld none (.t 41)),o 43 (.nn (.t 42)),o 44 (.fld 0 (.t 43)),o 45 (.ld none (.t 44)),o 46 (.nn (.t 45)),o 47 (.fld 0 (.t 46)),o 48 (.call 124 [.t 47])]) (.seq (.reg [mv 49 7,mv 6 49]) .ret))))
theorem in_mul_Engine_block:Ent 113 50 c_mul_Engine_block [.t 6]:=ent Tryz.func113 rfl rfl rfl (show compile _ 50 _=_ by kernel_rfl) (show compRes _ 50 _=_ by kernel_rfl)
def c_modn_New:AC:= .seq (.reg [o 1 (.box 23 (.t 0)),o 2 (.mv (.c (.ptr none)))]) (.seq (.reg [o 3 (.ld (some 11) (.t 1)),o 4 (.call 72 [.t 3]),o 5 (.bld [.ptr none] [(0,1, .t 4)]),o 6 (.box 96 (.t 5)),mv 2 6]) .ret)
theorem in_modn_New:Ent 38 7 c_modn_New [.t 2]:=ent Tryz.func38 rfl rfl rfl (show compile _ 7 _=_ by kernel_rfl) (show compRes _ 7 _=_ by kernel_rfl)
def c_toom_Engine_Toom:AC:= .seq (.reg [o 8 (.mv (.c (.sl none 0 0 none))),o 9 (.mv (.c (.bool false)))]) (.seq (.seq (.reg [mv 28 1,o 29 (.len false (.t 28)),mv 30 2,o 31 (.len false (.t 30)),bn 32 .lss 29 31]) (.cond (.t 32) (.reg [mv 33 2,mv 34 1,mv 1 33,mv 2 34]) .skip)) (.seq (.reg [mv 35 1,o 36 (.len false (.t 35)),mv 37 2,o 38 (.len false (.t 37)),mv 10 36,mv 11 38]) (.seq (.reg [mv 39 10,o 40 (.bin .add (.t 39) (i64 2)),o 41 (.bin .quo (.t 40) (i64 3)),mv 12 41]) (.seq (.seq (.reg [mv 42 11,mv 43 12,o 44 (.bin .mul (i64 2) (.t 43)),bn 45 .leq 42 44]) (.cond (.t 45) (.seq (.reg [o 8 (.mv (.c (.sl none 0 0 none))),o 9 (.mv (.c (.bool false)))]) .ret) .skip)) (.seq (.reg [mv 46 0,o 47 (.nn (.t 46)),o 48 (.fld 0 (.t 47)),o 49 (.ld none (.t 48)),o 50 (.nn (.t 49)),o 51 (.fld 0 (.t 50)),o 52 (.ld none (.t 51)),o 53 (.nn (.t 52)),o 54 (.fld 0 (.t 53)),o 55 (.ld none (.t 54)),o 56 (.nn (.t 55)),o 57 (.fld 0 (.t 56)),o 58 (.call 121 [.t 57])]) (.seq (.reg [mv 60 1,mv 61 12,o 62 (.call 129 [.t 60, .t 61]),mv 59 62,o 63 (.ext (.t 59) 0),o 64 (.ext (.t 59) 1),o 65 (.ext (.t 59) 2),o 66 (.ext (.t 59) 3),o 67 (.ext (.t 59) 4),o 13 (.alloc 39 [.sl none 0 0 none, .bool false]),o 14 (.alloc 39 [.sl none 0 0 none, .bool false]),o 15 (.alloc 39 [.sl none 0 0 none, .bool false]),o 16 (.alloc 39 [.sl none 0 0 none, .bool false]),o 17 (.alloc 39 [.sl none 0 0 none, .bool false]),od (.st 2 (.t 13) (.t 63)),od (.st 2 (.t 14) (.t 64)),od (.st 2 (.t 15) (.t 65)),od (.st 2 (.t 16) (.t 66)),od (.st 2 (.t 17) (.t 67))]) (.seq (.reg [mv 69 2,mv 70 12,o 71 (.call 129 [.t 69, .t 70]),mv 68 71,o 72 (.ext (.t 68) 0),o 73 (.ext (.t 68) 1),o 74 (.ext (.t 68) 2),o 75 (.ext (.t 68) 3),o 76 (.ext (.t 68) 4),o 18 (.alloc 39 [.sl none 0 0 none, .bool false]),o 19 (.alloc 39 [.sl none 0 0 none, .bool false]),o 20 (.alloc 39 [.sl none 0 0 none, .bool false]),o 21 (.alloc 39 [.sl none 0 0 none, .bool false]),o 22 (.alloc 39 [.sl none 0 0 none, .bool false]),od (.st 2 (.t 18) (.t 72)),od (.st 2 (.t 19) (.t 73)),od (.st 2 (.t 20) (.t 74)),od (.st 2 (.t 21) (.t 75)),od (.st 2 (.t 22) (.t 76))]) (.seq (.reg [mv 77 3,o 78 (.fld 0 (.t 13)),o 79 (.ld none (.t 78)),mv 80 12,o 82 (.fld 0 (.t 18)),o 83 (.ld none (.t 82)),mv 84 12,⟨some 81,none, .call 130 [.t 79, .t 80],[(some 83,none, .ld none (.t 82))]⟩,o 85 (.call 130 [.t 83, .t 84]),o 86 (.callV (.t 77) [.t 81, .t 85]),mv 23 86]) (.seq (.reg [mv 87 3,o 88 (.fld 0 (.t 14)),o 89 (.ld none (.t 88)),mv 90 12,o 91 (.bin .add (.t 90) (i64 1)),o 93 (.fld 0 (.t 19)),o 94 (.ld none (.t 93)),mv 95 12,o 96 (.bin .add (.t 95) (i64 1)),⟨some 92,none, .call 130 [.t 89, .t 91],[(some 94,none, .ld none (.t 93))]⟩,o 97 (.call 130 [.t 94, .t 96]),o 98 (.callV (.t 87) [.t 92, .t 97]),mv 24 98]) (.seq (.reg [mv 99 3,o 100 (.fld 0 (.t 15)),o 101 (.ld none (.t 100)),mv 102 12,o 103 (.bin .add (.t 102) (i64 1)),o 105 (.fld 0 (.t 20)),o 106 (.ld none (.t 105)),mv 107 12,o 108 (.bin .add (.t 107) (i64 1)),⟨some 104,none, .call 130 [.t 101, .t 103],[(some 106,none, .ld none (.t 105))]⟩,o 109 (.call 130 [.t 106, .t 108]),o 110 (.callV (.t 99) [.t 104, .t 109]),mv 25 110]) (.seq (.reg [mv 111 3,o 112 (.fld 0 (.t 16)),o 113 (.ld none (.t 112)),mv 114 12,o 115 (.bin .add (.t 114) (i64 1)),o 117 (.fld 0 (.t 21)),o 118 (.ld none (.t 117)),mv 119 12,o 120 (.bin .add (.t 119) (i64 1)),⟨some 116,none, .call 130 [.t 113, .t 115],[(some 118,none, .ld none (.t 117))]⟩,o 121 (.call 130 [.t 118, .t 120]),o 122 (.callV (.t 111) [.t 116, .t 121]),mv 26 122]) (.seq (.reg [mv 123 3,o 124 (.fld 0 (.t 17)),o 125 (.ld none (.t 124)),mv 126 10,mv 127 12,o 128 (.bin .mul (i64 2) (.t 127)),bn 129 .sub 126 128,o 131 (.fld 0 (.t 22)),o 132 (.ld none (.t 131)),mv 133 11,mv 134 12,o 135 (.bin .mul (i64 2) (.t 134)),bn 136 .sub 133 135,⟨some 130,none, .call 130 [.t 125, .t 129],[(some 132,none, .ld none (.t 131))]⟩,o 137 (.call 130 [.t 132, .t 136]),o 138 (.callV (.t 123) [.t 130, .t 137]),mv 27 138]) (.seq (.reg [mv 139 0,o 140 (.nn (.t 139)),o 141 (.fld 0 (.t 140)),o 142 (.ld none (.t 141)),o 143 (.nn (.t 142)),o 144 (.fld 0 (.t 143)),o 145 (.ld none (.t 144)),o 146 (.nn (.t 145)),o 147 (.fld 0 (.t 146)),o 148 (.ld none (.t 147)),o 149 (.nn (.t 148)),o 150 (.fld 0 (.t 149)),o 151 (.call 124 [.t 150])]) (.seq (.reg [mv 152 12,mv 153 23,mv 154 24,mv 155 25,mv 156 26,mv 157 27,o 158 (.fld 1 (.t 15)),o 159 (.ld none (.t 158)),o 160 (.fld 1 (.t 20)),o 161 (.ld none (.t 160)),o 162 (.beq true (.t 159) (.t 161)),o 163 (.call 131 [.t 152, .t 153, .t 154, .t 155, .t 156, .t 157, .t 162]),mv 8 163,o 9 (.mv (.c (.bool true)))]) .ret))))))))))))))
theorem in_toom_Engine_Toom:Ent 115 164 c_toom_Engine_Toom [.t 8, .t 9]:=ent Tryz.func115 rfl rfl rfl (show compile _ 164 _=_ by kernel_rfl) (show compRes _ 164 _=_ by kernel_rfl)
def c_toom_New:AC:= .seq (.reg [o 1 (.box 23 (.t 0)),o 2 (.mv (.c (.ptr none)))]) (.seq (.reg [o 3 (.ld (some 11) (.t 1)),o 4 (.call 142 [.t 3]),o 5 (.bld [.ptr none] [(0,1, .t 4)]),o 6 (.box 158 (.t 5)),mv 2 6]) .ret)
theorem in_toom_New:Ent 126 7 c_toom_New [.t 2]:=ent Tryz.func126 rfl rfl rfl (show compile _ 7 _=_ by kernel_rfl) (show compRes _ 7 _=_ by kernel_rfl)
def c_toom_Points:AC:= .seq (.reg [o 4 (.alloc 39 [.sl none 0 0 none, .bool false]),o 5 (.alloc 39 [.sl none 0 0 none, .bool false]),o 6 (.alloc 39 [.sl none 0 0 none, .bool false]),o 7 (.alloc 39 [.sl none 0 0 none, .bool false]),o 8 (.alloc 39 [.sl none 0 0 none, .bool false])]) (.seq (.reg [mv 13 1,o 14 (.mnx false (.t 13) [i64 16384]),o 15 (.mnx true (i64 1) [.t 14]),mv 1 15]) (.seq (.reg [mv 16 0,o 17 (.call 63 [.t 16]),mv 0 17]) (.seq (.reg [mv 18 0,mv 19 1,o 20 (.call 143 [.t 18,i64 0, .t 19]),mv 21 0,mv 22 1,mv 23 1,o 24 (.bin .mul (i64 2) (.t 23)),o 25 (.call 143 [.t 21, .t 22, .t 24]),mv 26 0,mv 27 1,o 28 (.bin .mul (i64 2) (.t 27)),mv 29 0,o 30 (.len false (.t 29)),o 31 (.call 143 [.t 26, .t 28, .t 30]),mv 9 20,mv 10 25,mv 11 31]) (.seq (.reg [mv 32 9,mv 33 11,o 34 (.call 75 [.t 32, .t 33]),mv 12 34]) (.seq (.reg [mv 35 9,o 36 (.call 63 [.t 35]),o 37 (.fld 0 (.t 4)),od (.st 1 (.t 37) (.t 36))]) (.seq (.reg [mv 38 12,mv 39 10,o 40 (.call 75 [.t 38, .t 39]),o 41 (.fld 0 (.t 5)),od (.st 1 (.t 41) (.t 40))]) (.seq (.reg [mv 42 12,mv 43 10,o 44 (.call 144 [.t 42, .t 43]),od (.st 2 (.t 6) (.t 44))]) (.seq (.reg [mv 45 9,mv 46 10,o 47 (.call 66 [.t 46,i64 1]),mv 48 11,o 49 (.call 66 [.t 48,i64 2]),o 50 (.bsl 37 1 3 [.sl none 0 0 none] [(0, .t 45),(1, .t 47),(2, .t 49)]),o 51 (.call 145 [.t 50]),o 52 (.fld 0 (.t 7)),od (.st 1 (.t 52) (.t 51))]) (.seq (.reg [mv 53 11,o 54 (.call 63 [.t 53]),o 55 (.fld 0 (.t 8)),od (.st 1 (.t 55) (.t 54))]) (.seq (.reg [o 56 (.ld (some 2) (.t 4)),o 57 (.ld (some 2) (.t 5)),o 58 (.ld (some 2) (.t 6)),o 59 (.ld (some 2) (.t 7)),o 60 (.ld (some 2) (.t 8)),⟨none,none, .st 2 (.t 4) (.t 56),[(some 57,none, .ld (some 2) (.t 5)),(some 58,none, .ld (some 2) (.t 6)),(some 59,none, .ld (some 2) (.t 7)),(some 60,none, .ld (some 2) (.t 8))]⟩,⟨none,none, .st 2 (.t 5) (.t 57),[(some 58,none, .ld (some 2) (.t 6)),(some 59,none, .ld (some 2) (.t 7)),(some 60,none, .ld (some 2) (.t 8))]⟩,⟨none,none, .st 2 (.t 6) (.t 58),[(some 59,none, .ld (some 2) (.t 7)),(some 60,none, .ld (some 2) (.t 8))]⟩,⟨none,none, .st 2 (.t 7) (.t 59),[(some 60,none, .ld (some 2) (.t 8))]⟩,od (.st 2 (.t 8) (.t 60))]) .ret))))))))))
theorem in_toom_Points:Ent 129 61 c_toom_Points [.c 4 (some 2), .c 5 (some 2), .c 6 (some 2), .c 7 (some 2), .c 8 (some 2)]:=ent Tryz.func129 rfl rfl rfl (show compile _ 61 _=_ by kernel_rfl) (show compRes _ 61 _=_ by kernel_rfl)
def c_toom_wide:AC:= .seq (.reg [o 4 (.mv (.c (.sl none 0 0 none)))]) (.seq (.reg [mv 6 1,o 7 (.mk 73 1 8 [.int .u64 0] (.t 6) (.t 6)),mv 5 7]) (.seq (.reg [mv 8 5,mv 9 0,mv 10 0,o 11 (.call 62 [.t 10]),o 12 (.slc 1 (.t 9) none (some (.t 11))),o 13 (.cpy 1 (.t 8) (.t 12))]) (.seq (.reg [mv 14 5,mv 4 14]) .ret)))
theorem in_toom_wide:Ent 130 15 c_toom_wide [.t 4]:=ent Tryz.func130 rfl rfl rfl (show compile _ 15 _=_ by kernel_rfl) (show compRes _ 15 _=_ by kernel_rfl)
def c_toom_joined:AC:= .seq (.reg [o 14 (.mv (.c (.sl none 0 0 none)))]) (.seq (.reg [mv 22 2,mv 23 3,o 24 (.call 75 [.t 22, .t 23]),mv 25 2,mv 26 3,o 27 (.call 146 [.t 25, .t 26]),mv 15 24,mv 16 27]) (.seq (.seq (.reg [mv 28 6]) (.cond (.t 28) (.reg [mv 29 16,mv 30 15,mv 15 29,mv 16 30]) .skip)) (.seq (.reg [mv 31 15,o 32 (.call 105 [.t 31,i64 1]),mv 33 16,o 34 (.call 105 [.t 33,i64 1]),mv 15 32,mv 16 34]) (.seq (.reg [mv 35 15,mv 36 1,mv 37 5,o 38 (.bsl 37 1 2 [.sl none 0 0 none] [(0, .t 36),(1, .t 37)]),o 39 (.call 147 [.t 35, .t 38]),mv 17 39]) (.seq (.reg [mv 40 4,mv 41 1,mv 42 17,o 43 (.call 66 [.t 42,i64 2]),mv 44 5,o 45 (.call 66 [.t 44,i64 4]),o 46 (.bsl 37 1 3 [.sl none 0 0 none] [(0, .t 41),(1, .t 43),(2, .t 45)]),o 47 (.call 147 [.t 40, .t 46]),o 48 (.call 105 [.t 47,i64 1]),mv 18 48]) (.seq (.reg [mv 50 18,mv 51 16,o 52 (.bsl 37 1 1 [.sl none 0 0 none] [(0, .t 51)]),o 53 (.call 147 [.t 50, .t 52]),o 54 (.call 148 [.t 53]),mv 49 54,o 55 (.ext (.t 49) 0),o 56 (.ext (.t 49) 1),mv 19 55,mv 20 56]) (.seq (.reg [mv 57 16,mv 58 19,o 59 (.bsl 37 1 1 [.sl none 0 0 none] [(0, .t 58)]),o 60 (.call 147 [.t 57, .t 59]),mv 21 60]) (.seq (.reg [mv 61 0,mv 62 1,mv 63 21,mv 64 17,mv 65 19,mv 66 5,o 67 (.bsl 37 1 5 [.sl none 0 0 none] [(0, .t 62),(1, .t 63),(2, .t 64),(3, .t 65),(4, .t 66)]),o 68 (.call 108 [.t 61, .t 67]),mv 14 68]) .ret))))))))
theorem in_toom_joined:Ent 131 69 c_toom_joined [.t 14]:=ent Tryz.func131 rfl rfl rfl (show compile _ 69 _=_ by kernel_rfl) (show compRes _ 69 _=_ by kernel_rfl)
def c_toom_part:AC:= .seq (.reg [o 6 (.mv (.c (.sl none 0 0 none)))]) (.seq (.seq (.reg [mv 7 1,mv 8 0,o 9 (.len false (.t 8)),bn 10 .geq 7 9]) (.cond (.t 10) (.seq (.reg [o 6 (.mv (.c (.sl none 0 0 none)))]) .ret) .skip)) (.seq (.reg [mv 11 0,mv 12 1,mv 13 2,mv 14 0,o 15 (.len false (.t 14)),o 16 (.mnx false (.t 13) [.t 15]),o 17 (.slc 1 (.t 11) (some (.t 12)) (some (.t 16))),mv 6 17]) .ret))
theorem in_toom_part:Ent 143 18 c_toom_part [.t 6]:=ent Tryz.func143 rfl rfl rfl (show compile _ 18 _=_ by kernel_rfl) (show compRes _ 18 _=_ by kernel_rfl)
def c_toom_less:AC:= .seq (.reg [o 4 (.alloc 39 [.sl none 0 0 none, .bool false])]) (.seq (.seq (.reg [mv 10 0,mv 11 1,o 12 (.call 59 [.t 10, .t 11]),mv 9 12,o 13 (.ext (.t 9) 0),o 14 (.ext (.t 9) 1),mv 5 13,mv 6 14]) (.seq (.reg [mv 15 6]) (.cond (.t 15) (.seq (.reg [mv 16 5,o 17 (.bld [.sl none 0 0 none, .bool false] [(0,1, .t 16)]),od (.st 2 (.t 4) (.t 17))]) .ret) .skip))) (.seq (.reg [mv 19 1,mv 20 0,o 21 (.call 59 [.t 19, .t 20]),mv 18 21,o 22 (.ext (.t 18) 0),o 23 (.ext (.t 18) 1),mv 7 22,mv 8 23]) (.seq (.reg [mv 24 7,o 25 (.bld [.sl none 0 0 none, .bool false] [(0,1, .t 24),(1,1, .c (.bool true))]),od (.st 2 (.t 4) (.t 25))]) .ret)))
theorem in_toom_less:Ent 144 26 c_toom_less [.c 4 (some 2)]:=ent Tryz.func144 rfl rfl rfl (show compile _ 26 _=_ by kernel_rfl) (show compRes _ 26 _=_ by kernel_rfl)
def c_toom_sub2:AC:= .seq (.reg [o 4 (.mv (.c (.sl none 0 0 none)))]) (.seq (.reg [mv 8 0,mv 9 1,o 10 (.call 59 [.t 8, .t 9]),mv 7 10,o 11 (.ext (.t 7) 0),o 12 (.ext (.t 7) 1),mv 5 11,mv 6 12]) (.seq (.reg [mv 13 5,mv 4 13]) .ret))
theorem in_toom_sub2:Ent 146 14 c_toom_sub2 [.t 4]:=ent Tryz.func146 rfl rfl rfl (show compile _ 14 _=_ by kernel_rfl) (show compRes _ 14 _=_ by kernel_rfl)
def c_toom_sub:AC:= .seq (.reg [o 4 (.mv (.c (.sl none 0 0 none)))]) (.seq (.reg [mv 8 0,mv 9 1,o 10 (.call 145 [.t 9]),o 11 (.call 59 [.t 8, .t 10]),mv 7 11,o 12 (.ext (.t 7) 0),o 13 (.ext (.t 7) 1),mv 5 12,mv 6 13]) (.seq (.reg [mv 14 5,mv 4 14]) .ret))
theorem in_toom_sub:Ent 147 15 c_toom_sub [.t 4]:=ent Tryz.func147 rfl rfl rfl (show compile _ 15 _=_ by kernel_rfl) (show compRes _ 15 _=_ by kernel_rfl)
def c_toom_Third:AC:= .seq (.reg [o 2 (.mv (.c (.sl none 0 0 none))),o 3 (.mv (.c (.bool false)))]) (.seq (.reg [mv 12 0,o 13 (.call 63 [.t 12]),mv 0 13]) (.seq (.reg [o 4 (.mv (u64 0))]) (.seq (.seq (.reg [mv 14 0,o 15 (.len false (.t 14)),o 16 (.mv (i64 0))]) (.block 0 (.loop (.seq (.reg [bn 17 .lss 16 15]) (.seq (.cond (.t 17) .skip (.exit 0)) (.seq (.block 1 (.seq (.reg [mv 18 16,o 19 (.idx 1 (.t 14) (.t 16)),o 20 (.ld none (.t 19)),mv 5 18,mv 6 20]) (.seq (.reg [mv 22 6,mv 23 4,o 24 (.call 81 [.t 22, .t 23,u64 0]),mv 21 24,o 25 (.ext (.t 21) 0),o 26 (.ext (.t 21) 1),mv 7 25,mv 8 26]) (.seq (.reg [mv 27 7,o 28 (.bin .mul (.t 27) (u64 12297829382473034411)),mv 9 28]) (.seq (.reg [mv 29 0,mv 30 5,mv 31 9,o 32 (.idx 1 (.t 29) (.t 30)),od (.st 1 (.t 32) (.t 31))]) (.seq (.reg [mv 34 9,o 35 (.call 90 [.t 34,u64 3]),mv 33 35,o 36 (.ext (.t 33) 0),o 37 (.ext (.t 33) 1),mv 10 36,mv 11 37]) (.reg [mv 38 10,mv 39 8,bn 40 .add 38 39,mv 4 40]))))))) (.reg [o 41 (.bin .add (.t 16) (i64 1)),mv 16 41]))))))) (.seq (.seq (.reg [mv 42 4,o 43 (.bin .neq (.t 42) (u64 0))]) (.cond (.t 43) (.seq (.reg [o 2 (.mv (.c (.sl none 0 0 none))),o 3 (.mv (.c (.bool false)))]) .ret) .skip)) (.seq (.reg [mv 44 0,o 45 (.call 63 [.t 44]),mv 2 45,o 3 (.mv (.c (.bool true)))]) .ret)))))
theorem in_toom_Third:Ent 148 46 c_toom_Third [.t 2, .t 3]:=ent Tryz.func148 rfl rfl rfl (show compile _ 46 _=_ by kernel_rfl) (show compRes _ 46 _=_ by kernel_rfl)
def c_hgcd_New:AC:= .seq (.reg [o 1 (.box 23 (.t 0)),o 2 (.mv (.c (.ptr none)))]) (.seq (.reg [o 3 (.ld (some 11) (.t 1)),o 4 (.call 92 [.t 3]),o 5 (.bld [.ptr none] [(0,1, .t 4)]),o 6 (.box 99 (.t 5)),mv 2 6]) .ret)
theorem in_hgcd_New:Ent 72 7 c_hgcd_New [.t 2]:=ent Tryz.func72 rfl rfl rfl (show compile _ 7 _=_ by kernel_rfl) (show compRes _ 7 _=_ by kernel_rfl)
def c_kara_Engine_Kara:AC:= .seq (.reg [o 8 (.mv (.c (.sl none 0 0 none))),o 9 (.mv (.c (.bool false)))]) (.seq (.seq (.reg [mv 24 1,o 25 (.len false (.t 24)),mv 26 2,o 27 (.len false (.t 26)),bn 28 .lss 25 27]) (.cond (.t 28) (.reg [mv 29 2,mv 30 1,mv 1 29,mv 2 30]) .skip)) (.seq (.reg [mv 31 1,o 32 (.len false (.t 31)),mv 33 2,o 34 (.len false (.t 33)),mv 10 32,mv 11 34]) (.seq (.reg [mv 35 10,o 36 (.bin .add (.t 35) (i64 1)),o 37 (.bin .quo (.t 36) (i64 2)),mv 12 37]) (.seq (.seq (.reg [mv 38 11,mv 39 12,bn 40 .leq 38 39]) (.cond (.t 40) (.seq (.reg [o 8 (.mv (.c (.sl none 0 0 none))),o 9 (.mv (.c (.bool false)))]) .ret) .skip)) (.seq (.reg [mv 41 0,o 42 (.nn (.t 41)),o 43 (.fld 0 (.t 42)),o 44 (.ld none (.t 43)),o 45 (.nn (.t 44)),o 46 (.fld 0 (.t 45)),o 47 (.ld none (.t 46)),o 48 (.nn (.t 47)),o 49 (.fld 0 (.t 48)),o 50 (.call 121 [.t 49])]) (.seq (.reg [mv 51 1,mv 52 12,o 53 (.call 127 [.t 51,i64 0, .t 52]),mv 54 1,mv 55 12,mv 56 10,mv 57 12,bn 58 .sub 56 57,o 59 (.call 127 [.t 54, .t 55, .t 58]),mv 13 53,mv 14 59]) (.seq (.reg [mv 60 2,mv 61 12,o 62 (.call 127 [.t 60,i64 0, .t 61]),mv 63 2,mv 64 12,mv 65 11,mv 66 12,bn 67 .sub 65 66,o 68 (.call 127 [.t 63, .t 64, .t 67]),mv 15 62,mv 16 68]) (.seq (.reg [mv 69 13,mv 70 14,o 71 (.call 75 [.t 69, .t 70]),mv 72 12,o 73 (.bin .add (.t 72) (i64 1)),o 74 (.call 128 [.t 71, .t 73]),mv 75 15,mv 76 16,o 77 (.call 75 [.t 75, .t 76]),mv 78 12,o 79 (.bin .add (.t 78) (i64 1)),o 80 (.call 128 [.t 77, .t 79]),mv 17 74,mv 18 80]) (.seq (.reg [mv 81 3,mv 82 13,mv 83 15,o 84 (.callV (.t 81) [.t 82, .t 83]),mv 85 3,mv 86 14,mv 87 16,o 88 (.callV (.t 85) [.t 86, .t 87]),mv 19 84,mv 20 88]) (.seq (.reg [mv 89 3,mv 90 17,mv 91 18,o 92 (.callV (.t 89) [.t 90, .t 91]),mv 21 92]) (.seq (.reg [mv 93 0,o 94 (.nn (.t 93)),o 95 (.fld 0 (.t 94)),o 96 (.ld none (.t 95)),o 97 (.nn (.t 96)),o 98 (.fld 0 (.t 97)),o 99 (.ld none (.t 98)),o 100 (.nn (.t 99)),o 101 (.fld 0 (.t 100)),o 102 (.call 124 [.t 101])]) (.seq (.reg [mv 104 21,mv 105 19,mv 106 20,o 107 (.call 75 [.t 105, .t 106]),o 108 (.call 59 [.t 104, .t 107]),mv 103 108,o 109 (.ext (.t 103) 0),o 110 (.ext (.t 103) 1),mv 22 109,mv 23 110]) (.seq (.reg [mv 111 12,mv 112 19,mv 113 22,mv 114 20,o 115 (.bsl 37 1 3 [.sl none 0 0 none] [(0, .t 112),(1, .t 113),(2, .t 114)]),o 116 (.call 108 [.t 111, .t 115]),mv 8 116,o 9 (.mv (.c (.bool true)))]) .ret)))))))))))))
theorem in_kara_Engine_Kara:Ent 114 117 c_kara_Engine_Kara [.t 8, .t 9]:=ent Tryz.func114 rfl rfl rfl (show compile _ 117 _=_ by kernel_rfl) (show compRes _ 117 _=_ by kernel_rfl)
def c_kara_piece:AC:= .seq (.reg [o 6 (.mv (.c (.sl none 0 0 none)))]) (.seq (.reg [mv 8 2,o 9 (.mk 73 1 8 [.int .u64 0] (.t 8) (.t 8)),mv 7 9]) (.seq (.seq (.reg [mv 10 1,mv 11 0,o 12 (.len false (.t 11)),bn 13 .lss 10 12]) (.cond (.t 13) (.reg [mv 14 7,mv 15 0,mv 16 1,mv 17 0,o 18 (.len false (.t 17)),mv 19 1,mv 20 2,bn 21 .add 19 20,o 22 (.mnx false (.t 18) [.t 21]),o 23 (.slc 1 (.t 15) (some (.t 16)) (some (.t 22))),o 24 (.cpy 1 (.t 14) (.t 23))]) .skip)) (.seq (.reg [mv 25 7,mv 6 25]) .ret)))
theorem in_kara_piece:Ent 127 26 c_kara_piece [.t 6]:=ent Tryz.func127 rfl rfl rfl (show compile _ 26 _=_ by kernel_rfl) (show compRes _ 26 _=_ by kernel_rfl)
def c_kara_wide:AC:= .seq (.reg [o 4 (.mv (.c (.sl none 0 0 none)))]) (.seq (.reg [mv 5 0,mv 6 1,o 7 (.call 127 [.t 5,i64 0, .t 6]),mv 4 7]) .ret)
theorem in_kara_wide:Ent 128 8 c_kara_wide [.t 4]:=ent Tryz.func128 rfl rfl rfl (show compile _ 8 _=_ by kernel_rfl) (show compRes _ 8 _=_ by kernel_rfl)
def c_kara_New:AC:= .seq (.reg [o 1 (.box 23 (.t 0)),o 2 (.mv (.c (.ptr none)))]) (.seq (.reg [o 3 (.ld (some 11) (.t 1)),o 4 (.call 154 [.t 3]),o 5 (.bld [.ptr none] [(0,1, .t 4)]),o 6 (.box 161 (.t 5)),mv 2 6]) .ret)
theorem in_kara_New:Ent 142 7 c_kara_New [.t 2]:=ent Tryz.func142 rfl rfl rfl (show compile _ 7 _=_ by kernel_rfl) (show compRes _ 7 _=_ by kernel_rfl)
def c_gcd_New:AC:= .seq (.reg [o 1 (.box 23 (.t 0)),o 2 (.mv (.c (.ptr none)))]) (.seq (.reg [o 3 (.ld (some 11) (.t 1)),o 4 (.call 110 [.t 3]),o 5 (.bld [.ptr none] [(0,1, .t 4)]),o 6 (.box 102 (.t 5)),mv 2 6]) .ret)
theorem in_gcd_New:Ent 92 7 c_gcd_New [.t 2]:=ent Tryz.func92 rfl rfl rfl (show compile _ 7 _=_ by kernel_rfl) (show compRes _ 7 _=_ by kernel_rfl)
def c_school_Engine_Mul:AC:= .seq (.reg [o 6 (.mv (.c (.sl none 0 0 none)))]) (.seq (.reg [mv 17 0,o 18 (.nn (.t 17)),o 19 (.fld 0 (.t 18)),o 20 (.ld none (.t 19)),o 21 (.nn (.t 20)),o 22 (.fld 0 (.t 21)),mv 23 1,o 24 (.len false (.t 23)),mv 25 2,o 26 (.len false (.t 25)),bn 27 .mul 24 26,o 28 (.call 101 [.t 22, .t 27])]) (.seq (.reg [mv 29 1,o 30 (.len false (.t 29)),mv 31 2,o 32 (.len false (.t 31)),bn 33 .add 30 32,o 34 (.mk 73 1 8 [.int .u64 0] (.t 33) (.t 33)),mv 7 34]) (.seq (.seq (.reg [mv 35 1,o 36 (.len false (.t 35)),o 37 (.mv (i64 0))]) (.block 0 (.loop (.seq (.reg [bn 38 .lss 37 36]) (.seq (.cond (.t 38) .skip (.exit 0)) (.seq (.block 1 (.seq (.reg [mv 39 37,o 40 (.idx 1 (.t 35) (.t 37)),o 41 (.ld none (.t 40)),mv 8 39,mv 9 41]) (.seq (.reg [o 10 (.mv (u64 0))]) (.seq (.seq (.reg [mv 42 2,o 43 (.len false (.t 42)),o 44 (.mv (i64 0))]) (.block 2 (.loop (.seq (.reg [bn 45 .lss 44 43]) (.seq (.cond (.t 45) .skip (.exit 2)) (.seq (.block 3 (.seq (.reg [mv 46 44,o 47 (.idx 1 (.t 42) (.t 44)),o 48 (.ld none (.t 47)),mv 11 46,mv 12 48]) (.seq (.reg [mv 50 9,mv 51 12,o 52 (.call 90 [.t 50, .t 51]),mv 49 52,o 53 (.ext (.t 49) 0),o 54 (.ext (.t 49) 1),mv 13 53,mv 14 54]) (.seq (.reg [mv 56 14,mv 57 10,o 58 (.call 91 [.t 56, .t 57,u64 0]),mv 55 58,o 59 (.ext (.t 55) 0),o 60 (.ext (.t 55) 1),mv 15 59,mv 16 60]) (.seq (.reg [mv 61 13,mv 62 16,bn 63 .add 61 62,mv 13 63]) (.seq (.reg [mv 65 7,mv 66 8,mv 67 11,bn 68 .add 66 67,mv 69 7,mv 70 8,mv 71 11,bn 72 .add 70 71,o 73 (.idx 1 (.t 69) (.t 72)),o 74 (.ld none (.t 73)),mv 75 15,o 76 (.call 91 [.t 74, .t 75,u64 0]),mv 64 76,o 77 (.ext (.t 64) 0),o 78 (.ext (.t 64) 1),o 79 (.idx 1 (.t 65) (.t 68)),od (.st 1 (.t 79) (.t 77)),mv 16 78]) (.reg [mv 80 13,mv 81 16,bn 82 .add 80 81,mv 10 82]))))))) (.reg [o 83 (.bin .add (.t 44) (i64 1)),mv 44 83]))))))) (.reg [mv 84 7,mv 85 8,mv 86 2,o 87 (.len false (.t 86)),bn 88 .add 85 87,mv 89 10,o 90 (.idx 1 (.t 84) (.t 88)),od (.st 1 (.t 90) (.t 89))]))))) (.reg [o 91 (.bin .add (.t 37) (i64 1)),mv 37 91]))))))) (.seq (.reg [mv 92 7,o 93 (.call 63 [.t 92]),mv 6 93]) .ret))))
theorem in_school_Engine_Mul:Ent 100 94 c_school_Engine_Mul [.t 6]:=ent Tryz.func100 rfl rfl rfl (show compile _ 94 _=_ by kernel_rfl) (show compRes _ 94 _=_ by kernel_rfl)
def c_school_New:AC:= .seq (.reg [o 1 (.box 23 (.t 0)),o 2 (.mv (.c (.ptr none)))]) (.seq (.reg [o 3 (.ld (some 11) (.t 1)),o 4 (.call 161 [.t 3]),o 5 (.bld [.ptr none] [(0,1, .t 4)]),o 6 (.box 164 (.t 5)),mv 2 6]) .ret)
theorem in_school_New:Ent 154 7 c_school_New [.t 2]:=ent Tryz.func154 rfl rfl rfl (show compile _ 7 _=_ by kernel_rfl) (show compRes _ 7 _=_ by kernel_rfl)
def c_power_New:AC:= .seq (.reg [o 1 (.box 23 (.t 0)),o 2 (.mv (.c (.ptr none)))]) (.seq (.reg [o 3 (.ld (some 11) (.t 1)),o 4 (.call 125 [.t 3]),o 5 (.bld [.ptr none] [(0,1, .t 4)]),o 6 (.box 105 (.t 5)),mv 2 6]) .ret)
theorem in_power_New:Ent 110 7 c_power_New [.t 2]:=ent Tryz.func110 rfl rfl rfl (show compile _ 7 _=_ by kernel_rfl) (show compRes _ 7 _=_ by kernel_rfl)
def c_radix_New:AC:= .seq (.reg [o 1 (.box 23 (.t 0)),o 2 (.mv (.c (.ptr none)))]) (.seq (.reg [o 3 (.ld (some 11) (.t 1)),o 4 (.call 27 [.t 3]),o 5 (.bld [.ptr none] [(0,1, .t 4)]),o 6 (.box 142 (.t 5)),mv 2 6]) .ret)
theorem in_radix_New:Ent 141 7 c_radix_New [.t 2]:=ent Tryz.func141 rfl rfl rfl (show compile _ 7 _=_ by kernel_rfl) (show compRes _ 7 _=_ by kernel_rfl)
def c_root_New:AC:= .seq (.reg [o 1 (.box 23 (.t 0)),o 2 (.mv (.c (.ptr none)))]) (.seq (.reg [o 3 (.ld (some 11) (.t 1)),o 4 (.call 58 [.t 3]),o 5 (.bld [.ptr none] [(0,1, .t 4)]),o 6 (.box 112 (.t 5)),mv 2 6]) .ret)
theorem in_root_New:Ent 27 7 c_root_New [.t 2]:=ent Tryz.func27 rfl rfl rfl (show compile _ 7 _=_ by kernel_rfl) (show compRes _ 7 _=_ by kernel_rfl)
def c_div_New:AC:= .seq (.reg [o 1 (.box 23 (.t 0)),o 2 (.mv (.c (.ptr none)))]) (.seq (.reg [o 3 (.ld (some 11) (.t 1)),o 4 (.call 79 [.t 3]),o 5 (.bld [.ptr none] [(0,1, .t 4)]),o 6 (.box 118 (.t 5)),mv 2 6]) .ret)
theorem in_div_New:Ent 58 7 c_div_New [.t 2]:=ent Tryz.func58 rfl rfl rfl (show compile _ 7 _=_ by kernel_rfl) (show compRes _ 7 _=_ by kernel_rfl)
def c_div_Engine_DivMod:AC:= .seq (.reg [o 6 (.mv (.c (.sl none 0 0 none))),o 7 (.mv (.c (.sl none 0 0 none))),o 8 (.mv (i64 0))]) (.seq (.reg [mv 11 1,o 12 (.call 62 [.t 11]),mv 13 2,o 14 (.call 62 [.t 13]),mv 9 12,mv 10 14]) (.seq (.block 0 (.seq (.reg [mv 16 10,o 17 (.bin .eql (.t 16) (i64 0)),mv 15 17]) (.cond (.t 15) (.seq (.reg [o 6 (.mv (.c (.sl none 0 0 none))),o 7 (.mv (.c (.sl none 0 0 none))),o 8 (.mv (i64 2))]) .ret) (.seq (.reg [mv 19 9,mv 20 10,bn 21 .lss 19 20,mv 22 21,og 23 22 false (.mv (.t 10)),og 24 22 false (.mv (.t 0)),og 25 22 false (.nn (.t 24)),og 26 22 false (.fld 0 (.t 25)),og 27 22 false (.ld none (.t 26)),og 28 22 false (.nn (.t 27)),og 29 22 false (.fld 0 (.t 28)),og 30 22 false (.ld none (.t 29)),og 31 22 false (.nn (.t 30)),og 32 22 false (.fld 0 (.t 31)),og 33 22 false (.ld none (.t 32)),og 34 22 false (.nn (.t 33)),og 35 22 false (.fld 0 (.t 34)),og 36 22 false (.ld none (.t 35)),og 37 22 false (.nn (.t 36)),og 38 22 false (.fld 0 (.t 37)),og 39 22 false (.ld none (.t 38)),og 40 22 false (.nn (.t 39)),og 41 22 false (.fld 0 (.t 40)),og 42 22 false (.ld none (.t 41)),og 43 22 false (.nn (.t 42)),og 44 22 false (.fld 0 (.t 43)),og 45 22 false (.ld none (.t 44)),og 46 22 false (.nn (.t 45)),og 47 22 false (.fld 3 (.t 46)),og 48 22 false (.fld 3 (.t 47)),og 49 22 false (.ld none (.t 48)),og 50 22 false (.bin .lss (.t 23) (.t 49)),o 51 (.pick (.t 22) (.c (.bool true)) (.t 50)),mv 52 51,og 53 52 false (.mv (.t 9)),og 54 52 false (.mv (.t 10)),og 55 52 false (.bin .sub (.t 53) (.t 54)),og 56 52 false (.bin .add (.t 55) (i64 1)),og 57 52 false (.mv (.t 0)),og 58 52 false (.nn (.t 57)),og 59 52 false (.fld 0 (.t 58)),og 60 52 false (.ld none (.t 59)),og 61 52 false (.nn (.t 60)),og 62 52 false (.fld 0 (.t 61)),og 63 52 false (.ld none (.t 62)),og 64 52 false (.nn (.t 63)),og 65 52 false (.fld 0 (.t 64)),og 66 52 false (.ld none (.t 65)),og 67 52 false (.nn (.t 66)),og 68 52 false (.fld 0 (.t 67)),og 69 52 false (.ld none (.t 68)),og 70 52 false (.nn (.t 69)),og 71 52 false (.fld 0 (.t 70)),og 72 52 false (.ld none (.t 71)),og 73 52 false (.nn (.t 72)),og 74 52 false (.fld 0 (.t 73)),og 75 52 false (.ld none (.t 74)),og 76 52 false (.nn (.t 75)),og 77 52 false (.fld 0 (.t 76)),og 78 52 false (.ld none (.t 77)),og 79 52 false (.nn (.t 78)),og 80 52 false (.fld 3 (.t 79)),og 81 52 false (.fld 3 (.t 80)),og 82 52 false (.ld none (.t 81)),og 83 52 false (.bin .lss (.t 56) (.t 82)),o 84 (.pick (.t 52) (.c (.bool true)) (.t 83)),mv 18 84]) (.cond (.t 18) (.seq (.reg [mv 85 0,o 86 (.nn (.t 85)),o 87 (.fld 0 (.t 86)),o 88 (.ld none (.t 87)),o 89 (.nn (.t 88)),o 90 (.fld 0 (.t 89)),o 91 (.ld none (.t 90)),mv 92 1,mv 93 2,o 94 (.call 86 [.t 91, .t 92, .t 93]),o 95 (.ext (.t 94) 0),o 96 (.ext (.t 94) 1),o 97 (.ext (.t 94) 2),mv 6 95,mv 7 96,mv 8 97]) .ret) (.seq (.reg [mv 99 10,mv 100 0,o 101 (.nn (.t 100)),o 102 (.fld 0 (.t 101)),o 103 (.ld none (.t 102)),o 104 (.nn (.t 103)),o 105 (.fld 0 (.t 104)),o 106 (.ld none (.t 105)),o 107 (.nn (.t 106)),o 108 (.fld 0 (.t 107)),o 109 (.ld none (.t 108)),o 110 (.nn (.t 109)),o 111 (.fld 0 (.t 110)),o 112 (.ld none (.t 111)),o 113 (.nn (.t 112)),o 114 (.fld 0 (.t 113)),o 115 (.ld none (.t 114)),o 116 (.nn (.t 115)),o 117 (.fld 0 (.t 116)),o 118 (.ld none (.t 117)),o 119 (.nn (.t 118)),o 120 (.fld 0 (.t 119)),o 121 (.ld none (.t 120)),o 122 (.nn (.t 121)),o 123 (.fld 3 (.t 122)),o 124 (.fld 4 (.t 123)),o 125 (.ld none (.t 124)),bn 126 .geq 99 125,mv 127 126,og 128 127 true (.mv (.t 9)),og 129 127 true (.bin .leq (.t 128) (i64 16384)),o 130 (.pick (.t 127) (.t 129) (.c (.bool false))),mv 98 130]) (.cond (.t 98) (.seq (.reg [mv 132 0,mv 133 1,mv 134 2,o 135 (.call 87 [.t 132, .t 133, .t 134]),mv 131 135,o 136 (.ext (.t 131) 0),o 137 (.ext (.t 131) 1),mv 6 136,mv 7 137]) (.seq (.reg [mv 138 6,mv 139 7,mv 6 138,mv 7 139,o 8 (.mv (i64 0))]) .ret)) .skip))))))) (.seq (.reg [mv 140 0,mv 141 1,mv 142 2,o 143 (.call 88 [.t 140, .t 141, .t 142]),o 144 (.ext (.t 143) 0),o 145 (.ext (.t 143) 1),o 146 (.ext (.t 143) 2),mv 6 144,mv 7 145,mv 8 146]) .ret)))
theorem in_div_Engine_DivMod:Ent 67 147 c_div_Engine_DivMod [.t 6, .t 7, .t 8]:=ent Tryz.func67 rfl rfl rfl (show compile _ 147 _=_ by kernel_rfl) (show compRes _ 147 _=_ by kernel_rfl)
def c_div_Engine_Exact:AC:= .seq (.reg [o 6 (.mv (.c (.sl none 0 0 none))),o 7 (.mv (i64 0))]) (.seq (.reg [mv 12 0,mv 13 1,mv 14 2,o 15 (.call 67 [.t 12, .t 13, .t 14]),mv 11 15,o 16 (.ext (.t 11) 0),o 17 (.ext (.t 11) 1),o 18 (.ext (.t 11) 2),mv 8 16,mv 9 17,mv 10 18]) (.seq (.seq (.reg [mv 19 10,o 20 (.bin .neq (.t 19) (i64 0))]) (.cond (.t 20) (.seq (.reg [mv 21 10,o 6 (.mv (.c (.sl none 0 0 none))),mv 7 21]) .ret) .skip)) (.seq (.seq (.reg [mv 22 9,o 23 (.call 54 [.t 22]),o 24 (.un .not (.t 23))]) (.cond (.t 24) (.seq (.reg [o 6 (.mv (.c (.sl none 0 0 none))),o 7 (.mv (i64 5))]) .ret) .skip)) (.seq (.reg [mv 25 8,mv 6 25,o 7 (.mv (i64 0))]) .ret))))
theorem in_div_Engine_Exact:Ent 77 26 c_div_Engine_Exact [.t 6, .t 7]:=ent Tryz.func77 rfl rfl rfl (show compile _ 26 _=_ by kernel_rfl) (show compRes _ 26 _=_ by kernel_rfl)
def c_div_Engine_newton:AC:= .seq (.reg [o 6 (.mv (.c (.sl none 0 0 none))),o 7 (.mv (.c (.sl none 0 0 none)))]) (.seq (.reg [mv 11 1,o 12 (.call 62 [.t 11]),o 13 (.bin .mul (i64 64) (.t 12)),mv 8 13]) (.seq (.reg [mv 15 0,o 16 (.nn (.t 15)),o 17 (.fld 0 (.t 16)),o 18 (.ld none (.t 17)),mv 19 2,mv 20 8,o 21 (.call 106 [.t 18, .t 19, .t 20]),mv 14 21,o 22 (.ext (.t 14) 0),o 23 (.ext (.t 14) 1),mv 9 22,mv 10 23]) (.seq (.reg [mv 24 0,o 25 (.nn (.t 24)),o 26 (.fld 0 (.t 25)),o 27 (.ld none (.t 26)),o 28 (.nn (.t 27)),o 29 (.fld 0 (.t 28)),o 30 (.ld none (.t 29)),o 31 (.nn (.t 30)),o 32 (.fld 0 (.t 31)),o 33 (.ld none (.t 32)),mv 34 1,mv 35 9,o 36 (.call 60 [.t 33, .t 34, .t 35]),mv 37 8,o 38 (.call 105 [.t 36, .t 37]),mv 6 38]) (.seq (.reg [mv 40 1,mv 41 0,o 42 (.nn (.t 41)),o 43 (.fld 0 (.t 42)),o 44 (.ld none (.t 43)),o 45 (.nn (.t 44)),o 46 (.fld 0 (.t 45)),o 47 (.ld none (.t 46)),o 48 (.nn (.t 47)),o 49 (.fld 0 (.t 48)),o 50 (.ld none (.t 49)),mv 51 6,mv 52 2,o 53 (.call 60 [.t 50, .t 51, .t 52]),o 54 (.call 59 [.t 40, .t 53]),mv 39 54,o 55 (.ext (.t 39) 0),o 56 (.ext (.t 39) 1),mv 7 55]) (.seq (.block 0 (.loop (.seq (.seq (.reg [mv 57 7,mv 58 2,o 59 (.call 71 [.t 57, .t 58]),o 60 (.bin .geq (.t 59) (i64 0))]) (.cond (.t 60) .skip (.exit 0))) (.block 1 (.seq (.reg [mv 62 7,mv 63 2,o 64 (.call 59 [.t 62, .t 63]),mv 61 64,o 65 (.ext (.t 61) 0),o 66 (.ext (.t 61) 1),mv 7 65]) (.reg [mv 67 6,o 68 (.call 65 [u64 1]),o 69 (.call 75 [.t 67, .t 68]),mv 6 69])))))) (.seq (.reg [mv 70 6,mv 71 7,mv 6 70,mv 7 71]) .ret))))))
theorem in_div_Engine_newton:Ent 87 72 c_div_Engine_newton [.t 6, .t 7]:=ent Tryz.func87 rfl rfl rfl (show compile _ 72 _=_ by kernel_rfl) (show compRes _ 72 _=_ by kernel_rfl)
def c_div_Engine_Halves:AC:= .seq (.reg [o 6 (.mv (.c (.sl none 0 0 none))),o 7 (.mv (.c (.sl none 0 0 none))),o 8 (.mv (i64 0))]) (.seq (.reg [mv 21 2,o 22 (.call 62 [.t 21]),mv 9 22]) (.seq (.seq (.reg [mv 23 9,o 24 (.bin .eql (.t 23) (i64 0))]) (.cond (.t 24) (.seq (.reg [o 6 (.mv (.c (.sl none 0 0 none))),o 7 (.mv (.c (.sl none 0 0 none))),o 8 (.mv (i64 2))]) .ret) .skip)) (.seq (.seq (.reg [mv 25 1,mv 26 2,o 27 (.call 71 [.t 25, .t 26]),o 28 (.bin .lss (.t 27) (i64 0))]) (.cond (.t 28) (.seq (.reg [mv 29 1,o 30 (.call 63 [.t 29]),o 6 (.mv (.c (.sl none 0 0 none))),mv 7 30,o 8 (.mv (i64 0))]) .ret) .skip)) (.seq (.reg [mv 31 9,mv 10 31,o 11 (.mv (i64 0))]) (.seq (.block 0 (.loop (.seq (.seq (.reg [mv 32 10,mv 33 0,o 34 (.nn (.t 33)),o 35 (.fld 0 (.t 34)),o 36 (.ld none (.t 35)),o 37 (.nn (.t 36)),o 38 (.fld 0 (.t 37)),o 39 (.ld none (.t 38)),o 40 (.nn (.t 39)),o 41 (.fld 0 (.t 40)),o 42 (.ld none (.t 41)),o 43 (.nn (.t 42)),o 44 (.fld 0 (.t 43)),o 45 (.ld none (.t 44)),o 46 (.nn (.t 45)),o 47 (.fld 0 (.t 46)),o 48 (.ld none (.t 47)),o 49 (.nn (.t 48)),o 50 (.fld 0 (.t 49)),o 51 (.ld none (.t 50)),o 52 (.nn (.t 51)),o 53 (.fld 0 (.t 52)),o 54 (.ld none (.t 53)),o 55 (.nn (.t 54)),o 56 (.fld 3 (.t 55)),o 57 (.fld 3 (.t 56)),o 58 (.ld none (.t 57)),bn 59 .geq 32 58]) (.cond (.t 59) .skip (.exit 0))) (.block 1 (.seq (.reg [mv 60 10,o 61 (.bin .add (.t 60) (i64 1)),o 62 (.bin .quo (.t 61) (i64 2)),mv 10 62]) (.reg [mv 63 11,o 64 (.bin .add (.t 63) (i64 1)),mv 11 64])))))) (.seq (.reg [mv 65 10,mv 66 11,o 67 (.cvI .u64 (.t 66)),bn 68 .shl 65 67,mv 10 68]) (.seq (.reg [mv 69 10,mv 70 9,bn 71 .sub 69 70,o 72 (.bin .mul (i64 64) (.t 71)),mv 73 2,mv 74 9,o 75 (.bin .sub (.t 74) (i64 1)),o 76 (.idx 1 (.t 73) (.t 75)),o 77 (.ld none (.t 76)),o 78 (.call 102 [.t 77]),bn 79 .add 72 78,mv 12 79]) (.seq (.reg [mv 80 2,mv 81 12,o 82 (.call 66 [.t 80, .t 81]),mv 13 82]) (.seq (.reg [mv 83 1,mv 84 12,o 85 (.call 66 [.t 83, .t 84]),mv 14 85]) (.seq (.reg [o 15 (.mv (.c (.sl none 0 0 none)))]) (.seq (.reg [mv 86 14,o 87 (.len false (.t 86)),mv 88 10,bn 89 .add 87 88,o 90 (.bin .sub (.t 89) (i64 1)),mv 91 10,bn 92 .quo 90 91,mv 16 92]) (.seq (.seq (.reg [mv 93 16,o 94 (.bin .sub (.t 93) (i64 1)),mv 17 94]) (.block 2 (.loop (.seq (.seq (.reg [mv 95 17,o 96 (.bin .geq (.t 95) (i64 0))]) (.cond (.t 96) .skip (.exit 2))) (.seq (.block 3 (.seq (.reg [o 18 (.mv (.c (.sl none 0 0 none)))]) (.seq (.reg [mv 100 0,mv 101 10,mv 102 14,mv 103 17,mv 104 10,bn 105 .mul 103 104,mv 106 10,o 107 (.call 109 [.t 102, .t 105, .t 106]),mv 108 7,o 109 (.bsl 37 1 2 [.sl none 0 0 none] [(0, .t 107),(1, .t 108)]),o 110 (.call 108 [.t 101, .t 109]),mv 111 13,mv 112 10,o 113 (.call 107 [.t 100, .t 110, .t 111, .t 112]),mv 99 113,o 114 (.ext (.t 99) 0),o 115 (.ext (.t 99) 1),mv 18 114,mv 7 115]) (.reg [mv 116 15,mv 117 18,o 118 (.bsl 37 1 1 [.sl none 0 0 none] [(0, .t 117)]),o 119 (.app 37 1 24 (.t 116) (.t 118)),mv 15 119])))) (.reg [mv 97 17,o 98 (.bin .sub (.t 97) (i64 1)),mv 17 98])))))) (.seq (.seq (.reg [mv 120 15,o 121 (.len false (.t 120)),o 122 (.bin .sub (.t 121) (i64 1)),o 19 (.mv (i64 0)),mv 20 122]) (.block 4 (.loop (.seq (.seq (.reg [mv 123 19,mv 124 20,bn 125 .lss 123 124]) (.cond (.t 125) .skip (.exit 4))) (.seq (.block 5 (.reg [mv 130 15,mv 131 19,mv 132 15,mv 133 20,mv 134 15,mv 135 20,o 136 (.idx 1 (.t 134) (.t 135)),o 137 (.ld none (.t 136)),mv 138 15,mv 139 19,o 140 (.idx 1 (.t 138) (.t 139)),o 141 (.ld none (.t 140)),o 142 (.idx 1 (.t 130) (.t 131)),od (.st 1 (.t 142) (.t 137)),o 143 (.idx 1 (.t 132) (.t 133)),od (.st 1 (.t 143) (.t 141))])) (.reg [mv 126 19,o 127 (.bin .add (.t 126) (i64 1)),mv 128 20,o 129 (.bin .sub (.t 128) (i64 1)),mv 19 127,mv 20 129])))))) (.seq (.reg [mv 144 10,mv 145 15,o 146 (.call 108 [.t 144, .t 145]),mv 147 7,mv 148 12,o 149 (.call 105 [.t 147, .t 148]),mv 6 146,mv 7 149,o 8 (.mv (i64 0))]) .ret))))))))))))))
theorem in_div_Engine_Halves:Ent 88 150 c_div_Engine_Halves [.t 6, .t 7, .t 8]:=ent Tryz.func88 rfl rfl rfl (show compile _ 150 _=_ by kernel_rfl) (show compRes _ 150 _=_ by kernel_rfl)
def c_div_Engine_two:AC:= .seq (.reg [o 8 (.mv (.c (.sl none 0 0 none))),o 9 (.mv (.c (.sl none 0 0 none)))]) (.seq (.seq (.reg [mv 15 3,o 16 (.bin .rem (.t 15) (i64 2)),o 17 (.bin .eql (.t 16) (i64 1)),mv 18 17,og 19 18 false (.mv (.t 3)),og 20 18 false (.mv (.t 0)),og 21 18 false (.nn (.t 20)),og 22 18 false (.fld 0 (.t 21)),og 23 18 false (.ld none (.t 22)),og 24 18 false (.nn (.t 23)),og 25 18 false (.fld 0 (.t 24)),og 26 18 false (.ld none (.t 25)),og 27 18 false (.nn (.t 26)),og 28 18 false (.fld 0 (.t 27)),og 29 18 false (.ld none (.t 28)),og 30 18 false (.nn (.t 29)),og 31 18 false (.fld 0 (.t 30)),og 32 18 false (.ld none (.t 31)),og 33 18 false (.nn (.t 32)),og 34 18 false (.fld 0 (.t 33)),og 35 18 false (.ld none (.t 34)),og 36 18 false (.nn (.t 35)),og 37 18 false (.fld 0 (.t 36)),og 38 18 false (.ld none (.t 37)),og 39 18 false (.nn (.t 38)),og 40 18 false (.fld 0 (.t 39)),og 41 18 false (.ld none (.t 40)),og 42 18 false (.nn (.t 41)),og 43 18 false (.fld 3 (.t 42)),og 44 18 false (.fld 3 (.t 43)),og 45 18 false (.ld none (.t 44)),og 46 18 false (.bin .lss (.t 19) (.t 45)),o 47 (.pick (.t 18) (.c (.bool true)) (.t 46))]) (.cond (.t 47) (.seq (.reg [mv 49 0,o 50 (.nn (.t 49)),o 51 (.fld 0 (.t 50)),o 52 (.ld none (.t 51)),o 53 (.nn (.t 52)),o 54 (.fld 0 (.t 53)),o 55 (.ld none (.t 54)),mv 56 1,mv 57 2,o 58 (.call 86 [.t 55, .t 56, .t 57]),mv 48 58,o 59 (.ext (.t 48) 0),o 60 (.ext (.t 48) 1),o 61 (.ext (.t 48) 2),mv 8 59,mv 9 60]) (.seq (.reg [mv 62 8,mv 63 9,mv 8 62,mv 9 63]) .ret)) .skip)) (.seq (.reg [mv 64 0,o 65 (.nn (.t 64)),o 66 (.fld 0 (.t 65)),o 67 (.ld none (.t 66)),o 68 (.nn (.t 67)),o 69 (.fld 0 (.t 68)),o 70 (.ld none (.t 69)),o 71 (.nn (.t 70)),o 72 (.fld 0 (.t 71)),o 73 (.ld none (.t 72)),o 74 (.nn (.t 73)),o 75 (.fld 0 (.t 74)),o 76 (.ld none (.t 75)),o 77 (.nn (.t 76)),o 78 (.fld 0 (.t 77)),o 79 (.ld none (.t 78)),o 80 (.nn (.t 79)),o 81 (.fld 0 (.t 80)),o 82 (.ld none (.t 81)),o 83 (.nn (.t 82)),o 84 (.fld 0 (.t 83)),o 85 (.ld none (.t 84)),o 86 (.nn (.t 85)),o 87 (.fld 0 (.t 86)),o 88 (.call 121 [.t 87])]) (.seq (.reg [mv 89 3,o 90 (.bin .quo (.t 89) (i64 2)),mv 10 90]) (.seq (.reg [mv 92 1,mv 93 10,o 94 (.call 122 [.t 92, .t 93]),mv 91 94,o 95 (.ext (.t 91) 0),o 96 (.ext (.t 91) 1),mv 11 95,mv 12 96]) (.seq (.reg [mv 98 0,mv 99 12,mv 100 2,mv 101 10,o 102 (.call 123 [.t 98, .t 99, .t 100, .t 101]),mv 97 102,o 103 (.ext (.t 97) 0),o 104 (.ext (.t 97) 1),mv 13 103,mv 9 104]) (.seq (.reg [mv 106 0,mv 107 10,mv 108 11,mv 109 9,o 110 (.bsl 37 1 2 [.sl none 0 0 none] [(0, .t 108),(1, .t 109)]),o 111 (.call 108 [.t 107, .t 110]),mv 112 2,mv 113 10,o 114 (.call 123 [.t 106, .t 111, .t 112, .t 113]),mv 105 114,o 115 (.ext (.t 105) 0),o 116 (.ext (.t 105) 1),mv 14 115,mv 9 116]) (.seq (.reg [mv 117 0,o 118 (.nn (.t 117)),o 119 (.fld 0 (.t 118)),o 120 (.ld none (.t 119)),o 121 (.nn (.t 120)),o 122 (.fld 0 (.t 121)),o 123 (.ld none (.t 122)),o 124 (.nn (.t 123)),o 125 (.fld 0 (.t 124)),o 126 (.ld none (.t 125)),o 127 (.nn (.t 126)),o 128 (.fld 0 (.t 127)),o 129 (.ld none (.t 128)),o 130 (.nn (.t 129)),o 131 (.fld 0 (.t 130)),o 132 (.ld none (.t 131)),o 133 (.nn (.t 132)),o 134 (.fld 0 (.t 133)),o 135 (.ld none (.t 134)),o 136 (.nn (.t 135)),o 137 (.fld 0 (.t 136)),o 138 (.ld none (.t 137)),o 139 (.nn (.t 138)),o 140 (.fld 0 (.t 139)),o 141 (.call 124 [.t 140])]) (.seq (.reg [mv 142 10,mv 143 14,mv 144 13,o 145 (.bsl 37 1 2 [.sl none 0 0 none] [(0, .t 143),(1, .t 144)]),o 146 (.call 108 [.t 142, .t 145]),mv 147 9,mv 8 146,mv 9 147]) .ret))))))))
theorem in_div_Engine_two:Ent 107 148 c_div_Engine_two [.t 8, .t 9]:=ent Tryz.func107 rfl rfl rfl (show compile _ 148 _=_ by kernel_rfl) (show compRes _ 148 _=_ by kernel_rfl)
def c_div_piece:AC:= .seq (.reg [o 6 (.mv (.c (.sl none 0 0 none)))]) (.seq (.seq (.reg [mv 7 1,mv 8 0,o 9 (.len false (.t 8)),bn 10 .geq 7 9]) (.cond (.t 10) (.seq (.reg [o 6 (.mv (.c (.sl none 0 0 none)))]) .ret) .skip)) (.seq (.reg [mv 11 0,mv 12 1,mv 13 0,o 14 (.len false (.t 13)),mv 15 1,mv 16 2,bn 17 .add 15 16,o 18 (.mnx false (.t 14) [.t 17]),o 19 (.slc 1 (.t 11) (some (.t 12)) (some (.t 18))),o 20 (.call 63 [.t 19]),mv 6 20]) .ret))
theorem in_div_piece:Ent 109 21 c_div_piece [.t 6]:=ent Tryz.func109 rfl rfl rfl (show compile _ 21 _=_ by kernel_rfl) (show compRes _ 21 _=_ by kernel_rfl)
def c_div_Engine_three:AC:= .seq (.reg [o 8 (.mv (.c (.sl none 0 0 none))),o 9 (.mv (.c (.sl none 0 0 none)))]) (.seq (.reg [mv 18 2,mv 19 3,o 20 (.call 122 [.t 18, .t 19]),mv 17 20,o 21 (.ext (.t 17) 0),o 22 (.ext (.t 17) 1),mv 10 21,mv 11 22]) (.seq (.reg [mv 24 1,mv 25 3,o 26 (.call 122 [.t 24, .t 25]),mv 23 26,o 27 (.ext (.t 23) 0),o 28 (.ext (.t 23) 1),mv 12 27,mv 13 28]) (.seq (.reg [mv 30 13,mv 31 3,o 32 (.call 122 [.t 30, .t 31]),mv 29 32,o 33 (.ext (.t 29) 0),o 34 (.ext (.t 29) 1),mv 14 33,mv 15 34]) (.seq (.seq (.reg [mv 35 15,mv 36 11,o 37 (.call 71 [.t 35, .t 36]),o 38 (.bin .lss (.t 37) (i64 0))]) (.cond (.t 38) (.reg [mv 40 0,mv 41 13,mv 42 11,mv 43 3,o 44 (.call 107 [.t 40, .t 41, .t 42, .t 43]),mv 39 44,o 45 (.ext (.t 39) 0),o 46 (.ext (.t 39) 1),mv 8 45,mv 9 46]) (.seq (.reg [mv 48 3,o 49 (.call 65 [u64 1]),o 50 (.bsl 37 1 2 [.sl none 0 0 none] [(0, .c (.sl none 0 0 none)),(1, .t 49)]),o 51 (.call 108 [.t 48, .t 50]),o 52 (.call 65 [u64 1]),o 53 (.call 59 [.t 51, .t 52]),mv 47 53,o 54 (.ext (.t 47) 0),o 55 (.ext (.t 47) 1),mv 8 54]) (.reg [mv 57 13,mv 58 11,o 59 (.call 75 [.t 57, .t 58]),mv 60 3,mv 61 11,o 62 (.bsl 37 1 2 [.sl none 0 0 none] [(0, .c (.sl none 0 0 none)),(1, .t 61)]),o 63 (.call 108 [.t 60, .t 62]),o 64 (.call 59 [.t 59, .t 63]),mv 56 64,o 65 (.ext (.t 56) 0),o 66 (.ext (.t 56) 1),mv 9 65])))) (.seq (.reg [mv 67 3,mv 68 12,mv 69 9,o 70 (.bsl 37 1 2 [.sl none 0 0 none] [(0, .t 68),(1, .t 69)]),o 71 (.call 108 [.t 67, .t 70]),mv 9 71]) (.seq (.reg [mv 72 0,o 73 (.nn (.t 72)),o 74 (.fld 0 (.t 73)),o 75 (.ld none (.t 74)),o 76 (.nn (.t 75)),o 77 (.fld 0 (.t 76)),o 78 (.ld none (.t 77)),o 79 (.nn (.t 78)),o 80 (.fld 0 (.t 79)),o 81 (.ld none (.t 80)),mv 82 8,mv 83 10,o 84 (.call 60 [.t 81, .t 82, .t 83]),mv 16 84]) (.seq (.block 0 (.loop (.seq (.seq (.reg [mv 85 9,mv 86 16,o 87 (.call 71 [.t 85, .t 86]),o 88 (.bin .lss (.t 87) (i64 0))]) (.cond (.t 88) .skip (.exit 0))) (.block 1 (.seq (.reg [mv 90 8,o 91 (.call 65 [u64 1]),o 92 (.call 59 [.t 90, .t 91]),mv 89 92,o 93 (.ext (.t 89) 0),o 94 (.ext (.t 89) 1),mv 8 93]) (.reg [mv 95 9,mv 96 2,o 97 (.call 75 [.t 95, .t 96]),mv 9 97])))))) (.seq (.reg [mv 99 9,mv 100 16,o 101 (.call 59 [.t 99, .t 100]),mv 98 101,o 102 (.ext (.t 98) 0),o 103 (.ext (.t 98) 1),mv 9 102]) (.seq (.reg [mv 104 8,mv 105 9,mv 8 104,mv 9 105]) .ret)))))))))
theorem in_div_Engine_three:Ent 123 106 c_div_Engine_three [.t 8, .t 9]:=ent Tryz.func123 rfl rfl rfl (show compile _ 106 _=_ by kernel_rfl) (show compRes _ 106 _=_ by kernel_rfl)
def c_recip_New:AC:= .seq (.reg [o 1 (.box 23 (.t 0)),o 2 (.mv (.c (.ptr none)))]) (.seq (.reg [o 3 (.ld (some 11) (.t 1)),o 4 (.call 96 [.t 3]),o 5 (.bld [.ptr none] [(0,1, .t 4)]),o 6 (.box 121 (.t 5)),mv 2 6]) .ret)
theorem in_recip_New:Ent 79 7 c_recip_New [.t 2]:=ent Tryz.func79 rfl rfl rfl (show compile _ 7 _=_ by kernel_rfl) (show compRes _ 7 _=_ by kernel_rfl)
def c_recip_Engine_Recip:AC:= .seq (.reg [o 6 (.mv (.c (.sl none 0 0 none))),o 7 (.mv (i64 0))]) (.seq (.seq (.reg [mv 8 1,o 9 (.call 54 [.t 8])]) (.cond (.t 9) (.seq (.reg [o 6 (.mv (.c (.sl none 0 0 none))),o 7 (.mv (i64 2))]) .ret) .skip)) (.seq (.seq (.reg [mv 10 2,o 11 (.bin .lss (.t 10) (i64 0)),mv 12 11,og 13 12 false (.mv (.t 2)),og 14 12 false (.bin .gtr (.t 13) (i64 1048576)),o 15 (.pick (.t 12) (.c (.bool true)) (.t 14))]) (.cond (.t 15) (.seq (.reg [o 6 (.mv (.c (.sl none 0 0 none))),o 7 (.mv (i64 1))]) .ret) .skip)) (.seq (.seq (.reg [mv 16 2,mv 17 1,o 18 (.call 64 [.t 17]),o 19 (.bin .sub (.t 18) (i64 1)),bn 20 .lss 16 19]) (.cond (.t 20) (.seq (.reg [o 6 (.mv (.c (.sl none 0 0 none))),o 7 (.mv (i64 0))]) .ret) .skip)) (.seq (.reg [mv 21 0,mv 22 1,o 23 (.call 63 [.t 22]),mv 24 2,o 25 (.call 120 [.t 21, .t 23, .t 24]),mv 6 25,o 7 (.mv (i64 0))]) .ret))))
theorem in_recip_Engine_Recip:Ent 106 26 c_recip_Engine_Recip [.t 6, .t 7]:=ent Tryz.func106 rfl rfl rfl (show compile _ 26 _=_ by kernel_rfl) (show compRes _ 26 _=_ by kernel_rfl)
def c_recip_Engine_newton:AC:= .seq (.reg [o 6 (.mv (.c (.sl none 0 0 none)))]) (.seq (.reg [mv 16 2,mv 17 1,o 18 (.call 64 [.t 17]),bn 19 .sub 16 18,o 20 (.bin .add (.t 19) (i64 1)),mv 7 20]) (.seq (.seq (.reg [mv 21 1,o 22 (.len false (.t 21)),mv 23 0,o 24 (.nn (.t 23)),o 25 (.fld 0 (.t 24)),o 26 (.ld none (.t 25)),o 27 (.nn (.t 26)),o 28 (.fld 0 (.t 27)),o 29 (.ld none (.t 28)),o 30 (.nn (.t 29)),o 31 (.fld 0 (.t 30)),o 32 (.ld none (.t 31)),o 33 (.nn (.t 32)),o 34 (.fld 0 (.t 33)),o 35 (.ld none (.t 34)),o 36 (.nn (.t 35)),o 37 (.fld 0 (.t 36)),o 38 (.ld none (.t 37)),o 39 (.nn (.t 38)),o 40 (.fld 0 (.t 39)),o 41 (.ld none (.t 40)),o 42 (.nn (.t 41)),o 43 (.fld 3 (.t 42)),o 44 (.fld 4 (.t 43)),o 45 (.ld none (.t 44)),bn 46 .lss 22 45,mv 47 46,og 48 47 false (.mv (.t 7)),og 49 47 false (.bin .leq (.t 48) (i64 64)),o 50 (.pick (.t 47) (.c (.bool true)) (.t 49))]) (.cond (.t 50) (.seq (.reg [mv 52 0,o 53 (.nn (.t 52)),o 54 (.fld 0 (.t 53)),o 55 (.ld none (.t 54)),mv 56 2,mv 58 1,⟨some 57,none, .call 138 [.t 56],[(some 55,none, .ld none (.t 54))]⟩,o 59 (.call 86 [.t 55, .t 57, .t 58]),mv 51 59,o 60 (.ext (.t 51) 0),o 61 (.ext (.t 51) 1),o 62 (.ext (.t 51) 2),mv 8 60,mv 9 61,mv 10 62]) (.seq (.reg [mv 63 8,mv 6 63]) .ret)) .skip)) (.seq (.reg [mv 64 0,o 65 (.nn (.t 64)),o 66 (.fld 0 (.t 65)),o 67 (.ld none (.t 66)),o 68 (.nn (.t 67)),o 69 (.fld 0 (.t 68)),o 70 (.ld none (.t 69)),o 71 (.nn (.t 70)),o 72 (.fld 0 (.t 71)),o 73 (.ld none (.t 72)),o 74 (.nn (.t 73)),o 75 (.fld 0 (.t 74)),o 76 (.ld none (.t 75)),o 77 (.nn (.t 76)),o 78 (.fld 0 (.t 77)),o 79 (.ld none (.t 78)),o 80 (.nn (.t 79)),o 81 (.fld 0 (.t 80)),o 82 (.ld none (.t 81)),o 83 (.nn (.t 82)),o 84 (.fld 0 (.t 83)),o 85 (.call 121 [.t 84])]) (.seq (.reg [mv 86 7,o 87 (.bin .quo (.t 86) (i64 2)),o 88 (.bin .add (.t 87) (i64 4)),mv 11 88]) (.seq (.reg [mv 89 1,o 90 (.call 64 [.t 89]),mv 91 11,bn 92 .sub 90 91,o 93 (.bin .sub (.t 92) (i64 4)),o 94 (.mnx true (i64 0) [.t 93]),mv 12 94]) (.seq (.reg [mv 95 1,mv 96 12,o 97 (.call 105 [.t 95, .t 96]),mv 13 97]) (.seq (.reg [mv 98 13,o 99 (.call 64 [.t 98]),o 100 (.bin .sub (.t 99) (i64 1)),mv 101 11,bn 102 .add 100 101,mv 14 102]) (.seq (.reg [mv 103 0,mv 104 13,mv 105 14,o 106 (.call 120 [.t 103, .t 104, .t 105]),mv 15 106]) (.seq (.reg [mv 107 15,mv 108 2,mv 109 14,bn 110 .sub 108 109,mv 111 12,bn 112 .sub 110 111,o 113 (.mnx true (i64 0) [.t 112]),o 114 (.call 66 [.t 107, .t 113]),mv 15 114]) (.seq (.reg [mv 115 15,mv 116 14,mv 117 12,bn 118 .add 116 117,mv 119 2,bn 120 .sub 118 119,o 121 (.mnx true (i64 0) [.t 120]),o 122 (.call 105 [.t 115, .t 121]),mv 15 122]) (.seq (.reg [mv 123 0,mv 124 1,mv 125 15,mv 126 2,o 127 (.call 139 [.t 123, .t 124, .t 125, .t 126]),mv 15 127]) (.seq (.reg [mv 128 0,o 129 (.nn (.t 128)),o 130 (.fld 0 (.t 129)),o 131 (.ld none (.t 130)),o 132 (.nn (.t 131)),o 133 (.fld 0 (.t 132)),o 134 (.ld none (.t 133)),o 135 (.nn (.t 134)),o 136 (.fld 0 (.t 135)),o 137 (.ld none (.t 136)),o 138 (.nn (.t 137)),o 139 (.fld 0 (.t 138)),o 140 (.ld none (.t 139)),o 141 (.nn (.t 140)),o 142 (.fld 0 (.t 141)),o 143 (.ld none (.t 142)),o 144 (.nn (.t 143)),o 145 (.fld 0 (.t 144)),o 146 (.ld none (.t 145)),o 147 (.nn (.t 146)),o 148 (.fld 0 (.t 147)),o 149 (.call 124 [.t 148])]) (.seq (.reg [mv 150 0,mv 151 1,mv 152 15,mv 153 2,o 154 (.call 140 [.t 150, .t 151, .t 152, .t 153]),mv 6 154]) .ret)))))))))))))
theorem in_recip_Engine_newton:Ent 120 155 c_recip_Engine_newton [.t 6]:=ent Tryz.func120 rfl rfl rfl (show compile _ 155 _=_ by kernel_rfl) (show compRes _ 155 _=_ by kernel_rfl)
def c_recip_power:AC:= .seq (.reg [o 2 (.mv (.c (.sl none 0 0 none)))]) (.seq (.reg [o 3 (.call 65 [u64 1]),mv 4 0,o 5 (.call 66 [.t 3, .t 4]),mv 2 5]) .ret)
theorem in_recip_power:Ent 138 6 c_recip_power [.t 2]:=ent Tryz.func138 rfl rfl rfl (show compile _ 6 _=_ by kernel_rfl) (show compRes _ 6 _=_ by kernel_rfl)
def c_recip_Engine_step:AC:= .seq (.reg [o 8 (.mv (.c (.sl none 0 0 none)))]) (.seq (.reg [mv 18 0,o 19 (.nn (.t 18)),o 20 (.fld 0 (.t 19)),o 21 (.ld none (.t 20)),o 22 (.nn (.t 21)),o 23 (.fld 0 (.t 22)),o 24 (.ld none (.t 23)),mv 25 1,mv 26 2,o 27 (.call 60 [.t 24, .t 25, .t 26]),mv 9 27]) (.seq (.reg [mv 28 3,o 29 (.call 138 [.t 28]),mv 10 29]) (.seq (.seq (.reg [mv 31 10,mv 32 9,o 33 (.call 59 [.t 31, .t 32]),mv 30 33,o 34 (.ext (.t 30) 0),o 35 (.ext (.t 30) 1),mv 11 34,mv 12 35]) (.seq (.reg [mv 36 12]) (.cond (.t 36) (.seq (.reg [mv 37 2,mv 38 0,o 39 (.nn (.t 38)),o 40 (.fld 0 (.t 39)),o 41 (.ld none (.t 40)),o 42 (.nn (.t 41)),o 43 (.fld 0 (.t 42)),o 44 (.ld none (.t 43)),mv 45 2,mv 46 11,o 47 (.call 60 [.t 44, .t 45, .t 46]),mv 48 3,o 49 (.call 105 [.t 47, .t 48]),o 50 (.call 75 [.t 37, .t 49]),mv 8 50]) .ret) .skip))) (.seq (.reg [mv 52 9,mv 53 10,o 54 (.call 59 [.t 52, .t 53]),mv 51 54,o 55 (.ext (.t 51) 0),o 56 (.ext (.t 51) 1),mv 13 55,mv 14 56]) (.seq (.reg [mv 57 0,o 58 (.nn (.t 57)),o 59 (.fld 0 (.t 58)),o 60 (.ld none (.t 59)),o 61 (.nn (.t 60)),o 62 (.fld 0 (.t 61)),o 63 (.ld none (.t 62)),mv 64 2,mv 65 13,o 66 (.call 60 [.t 63, .t 64, .t 65]),mv 67 3,o 68 (.call 105 [.t 66, .t 67]),o 69 (.call 65 [u64 1]),o 70 (.call 75 [.t 68, .t 69]),mv 15 70]) (.seq (.reg [mv 72 2,mv 73 15,o 74 (.call 59 [.t 72, .t 73]),mv 71 74,o 75 (.ext (.t 71) 0),o 76 (.ext (.t 71) 1),mv 16 75,mv 17 76]) (.seq (.seq (.reg [mv 77 17,o 78 (.un .not (.t 77))]) (.cond (.t 78) (.seq (.reg [o 8 (.mv (.c (.sl none 0 0 none)))]) .ret) .skip)) (.seq (.reg [mv 79 16,mv 8 79]) .ret))))))))
theorem in_recip_Engine_step:Ent 139 80 c_recip_Engine_step [.t 8]:=ent Tryz.func139 rfl rfl rfl (show compile _ 80 _=_ by kernel_rfl) (show compRes _ 80 _=_ by kernel_rfl)
def c_recip_Engine_right:AC:= .seq (.reg [o 8 (.mv (.c (.sl none 0 0 none)))]) (.seq (.reg [mv 16 3,o 17 (.call 138 [.t 16]),mv 9 17]) (.seq (.reg [mv 18 0,o 19 (.nn (.t 18)),o 20 (.fld 0 (.t 19)),o 21 (.ld none (.t 20)),o 22 (.nn (.t 21)),o 23 (.fld 0 (.t 22)),o 24 (.ld none (.t 23)),mv 25 1,mv 26 2,o 27 (.call 60 [.t 24, .t 25, .t 26]),mv 10 27]) (.seq (.seq (.reg [o 28 (.mv (i64 0))]) (.block 0 (.loop (.seq (.reg [o 29 (.bin .lss (.t 28) (i64 8))]) (.seq (.cond (.t 29) .skip (.exit 0)) (.seq (.block 1 (.seq (.reg [mv 31 9,mv 32 10,o 33 (.call 59 [.t 31, .t 32]),mv 30 33,o 34 (.ext (.t 30) 0),o 35 (.ext (.t 30) 1),mv 11 34,mv 12 35]) (.seq (.seq (.reg [mv 36 12,o 37 (.un .not (.t 36))]) (.cond (.t 37) (.seq (.reg [mv 39 2,o 40 (.call 65 [u64 1]),o 41 (.call 59 [.t 39, .t 40]),mv 38 41,o 42 (.ext (.t 38) 0),o 43 (.ext (.t 38) 1),mv 2 42]) (.seq (.reg [mv 45 10,mv 46 1,o 47 (.call 59 [.t 45, .t 46]),mv 44 47,o 48 (.ext (.t 44) 0),o 49 (.ext (.t 44) 1),mv 10 48]) (.exit 1))) .skip)) (.seq (.seq (.reg [mv 50 11,mv 51 1,o 52 (.call 71 [.t 50, .t 51]),o 53 (.bin .lss (.t 52) (i64 0))]) (.cond (.t 53) (.seq (.reg [mv 54 2,mv 8 54]) .ret) .skip)) (.seq (.reg [mv 55 2,o 56 (.call 65 [u64 1]),o 57 (.call 75 [.t 55, .t 56]),mv 2 57]) (.reg [mv 58 10,mv 59 1,o 60 (.call 75 [.t 58, .t 59]),mv 10 60])))))) (.reg [o 61 (.bin .add (.t 28) (i64 1)),mv 28 61]))))))) (.seq (.reg [mv 63 0,o 64 (.nn (.t 63)),o 65 (.fld 0 (.t 64)),o 66 (.ld none (.t 65)),mv 67 9,mv 68 1,o 69 (.call 86 [.t 66, .t 67, .t 68]),mv 62 69,o 70 (.ext (.t 62) 0),o 71 (.ext (.t 62) 1),o 72 (.ext (.t 62) 2),mv 13 70,mv 14 71,mv 15 72]) (.seq (.reg [mv 73 13,mv 8 73]) .ret)))))
theorem in_recip_Engine_right:Ent 140 74 c_recip_Engine_right [.t 8]:=ent Tryz.func140 rfl rfl rfl (show compile _ 74 _=_ by kernel_rfl) (show compRes _ 74 _=_ by kernel_rfl)
end
def H.lee (u:Nat) (h h':H):Prop:=h.next≤h'.next∧∀i r,i≠u→h.rows i=some r→h'.rows i=some r
theorem H.le.lee {u:Nat} {h h':H} (hl:h.le h'):H.lee u h h':=⟨hl.1,fun i r _ hr=>hl.2 i r hr⟩
theorem H.lee.trans {u:Nat} {a b c:H} (h:H.lee u a b) (k:H.lee u b c):H.lee u a c:=⟨Nat.le_trans h.1 k.1,fun i r hi hr=>k.2 i r hi (h.2 i r hi hr)⟩
theorem H.lee_refl (u:Nat) (h:H):H.lee u h h:=(H.le_refl h).lee
theorem H.lee_set {u:Nat} {h:H} (r:Row):H.lee u h (h.set u r):=⟨Nat.le_refl _,fun i q hi hr=>by rw[H.rows_set_ne hi];exact hr⟩
theorem IsW.monoE {u:Nat} {k:IntKind} {h h':H} {v:AV} {xs:List Int} {ru:Row} (hu:h.rows u=some ru) (ho:ru.own≠none) (hz:ru.esz≠1) (hv:IsW k h v xs) (hl:H.lee u h h'):IsW k h' v xs:=by
 obtain⟨id,off,c,rfl,h1⟩:=hv
 refine⟨id,off,c,rfl, ?_⟩
 rcases h1 with h1|⟨i,r,rfl,hr,hor,h3,h4⟩
 ·exact .inl h1
 ·refine .inr ⟨i,r,rfl,hl.2 i r ?_ hr,hor,h3,h4⟩
  rintro rfl
  rw[hu] at hr
  injection hr with hr
  subst hr
  rcases hor with h|h
  ·exact ho h
  ·exact hz h
def wr (m:Nat):Int:=IntKind.i64.wrap (m:Int)
theorem wr_small {m:Nat} (h:m<9223372036854775808):wr m=(m:Int):=wI (by omega) (by omega)
theorem wr_add {m n:Nat}:IntKind.i64.wrap (wr m+(n:Int))=wr (m+n):=by
 unfold wr
 rw[IntKind.wrap_i64,IntKind.wrap_i64,IntKind.wrap_i64]
 omega
def tuneRow (m nw dp:Nat) (t:Tb):Row:=⟨some 168,14,[.int .i64 (wr m), .int .i64 (nw:Int), .int .i64 (dp:Int)]++t.cells⟩
def Tune (h:H) (u m nw dp:Nat) (t:Tb):Prop:=h.rows u=some (tuneRow m nw dp t)
def Eng:Nat→H→Nat→Nat→Prop
 |0,_,e,u=>e=u
 |d+1,h,e,u=>∃r e',h.rows e=some r∧r.cells=[.ptr (some (e',0))]∧Eng d h e' u
theorem Eng.mono {h h':H} {u:Nat}:∀{d e:Nat},Eng d h e u→h.le h'→Eng d h' e u
 |0,_,he,_=>he
 |_+1,_,⟨r,e',h1,h2,h3⟩,hl=>⟨r,e',hl.2 _ _ h1,h2,h3.mono hl⟩
theorem Eng.monoE {h h':H} {u m nw dp:Nat} {t:Tb} (ht:Tune h u m nw dp t) (hl:H.lee u h h'):∀{d e:Nat},Eng d h e u→Eng d h' e u
 |0,_,he=>he
 |_+1,e,⟨r,e',h1,h2,h3⟩=>⟨r,e',hl.2 _ _ (by
   rintro rfl
   rw[ht] at h1
   injection h1 with h1
   rw[←h1] at h2
   have:=congrArg List.length h2
   simp[tuneRow,Tb.cells] at this) h1,h2,Eng.monoE ht hl h3⟩
theorem Tune.mono {h h':H} {u m nw dp:Nat} {t:Tb} (ht:Tune h u m nw dp t) (hl:h.le h'):Tune h' u m nw dp t:=hl.2 _ _ ht
theorem IsN.monoE {h h':H} {u m nw dp:Nat} {t:Tb} {v:AV} {xs:List Nat} (ht:Tune h u m nw dp t) (hv:IsN h v xs) (hl:H.lee u h h'):IsN h' v xs:=IsW.monoE ht (by simp[tuneRow]) (by simp[tuneRow]) hv hl
theorem Nn.monoE {h h':H} {u m nw dp:Nat} {t:Tb} {v:AV} {x:Nat} (ht:Tune h u m nw dp t) (hv:Nn h v x) (hl:H.lee u h h'):Nn h' v x:=by
 obtain⟨xs,h1,h2⟩:=hv
 exact⟨xs,h1.monoE ht hl,h2⟩
theorem IsG.monoE {b:Nat} {h h':H} {u:Nat} {v:AV} {xs:List Nat} (hub:u<b) (hv:IsG b h v xs) (hl:H.lee u h h'):IsG b h' v xs:=by
 obtain⟨id,c,rfl,h1⟩:=hv
 refine⟨id,c,rfl, ?_⟩
 rcases h1 with h1|⟨i,r,rfl,hb,hr,h2⟩
 ·exact .inl h1
 ·exact .inr ⟨i,r,rfl,hb,hl.2 i r (by omega) hr,h2⟩
theorem Nf.monoE {b:Nat} {h h':H} {u:Nat} {v:AV} {x:Nat} (hub:u<b) (hv:Nf b h v x) (hl:H.lee u h h'):Nf b h' v x:=by
 obtain⟨xs,h1,h2⟩:=hv
 exact⟨xs,h1.monoE hub hl,h2⟩
theorem Spend_calls {u m nw dp n:Nat} {t:Tb} {h:H} {K:AV→H→Prop} (ht:Tune h u m nw dp t)
  (hk:∀h',h'.wf→H.lee u h h'→h'.next=h.next→Tune h' u (m+n) nw dp t→K (.int .i64 (wr (m+n))) h'):ACalls Tryz.prog 101 [.ptr (some (u,0)), .int .i64 (n:Int)] h K:=by
 refine in_meter_Meter_Spend (by simp) fun hw=> ?_
 unfold c_meter_Meter_Spend
 have hul:=H.row_lt hw ht
 have hg:h.get u 0=some (.int .i64 (wr m)):=by rw[H.get_of ht];rfl
 rcases Nat.eq_zero_or_pos n with h0|h0
 ·subst h0
  simp only[go_sem,show decide ((0:Int)<((0:Nat):Int))=false from rfl,hg]
  exact fun _=>hk h hw (H.lee_refl u h) rfl ht
 ·have hr:h.rows u=some (tuneRow m nw dp t):=ht
  simp only[go_sem,show decide ((0:Int)<(n:Int))=true from decide_eq_true (by omega),hg,wr_add (m:=m) (n:=n),hr]
  refine⟨by simp[tuneRow],by simp[tuneRow], ?_⟩
  have hp:({tuneRow m nw dp t with cells:=putAt (tuneRow m nw dp t).cells 0 [AV.int .i64 (wr (m+n))]}:Row)=tuneRow (m+n) nw dp t:=by
   simp[tuneRow,putAt]
  rw[hp]
  have hg2:(h.set u (tuneRow (m+n) nw dp t)).get u 0=some (.int .i64 (wr (m+n))):=by rw[H.get_of (H.rows_set _ _ _)];rfl
  simp only[go_sem,hg2]
  exact fun hw'=>hk _ hw' (H.lee_set _) rfl (H.rows_set _ _ _)
theorem tune_zero {t:Tb}:tuneRow 0 0 0 t=⟨some 168,14,tuneCells t⟩:=by
 have e:wr 0=0:=wr_small (by omega)
 simp[tuneRow,tuneCells,e]
theorem tNew_calls {t:Tb} {h:H} {K:AV→H→Prop} (hk:∀id h',h'.wf→h.le h'→h.next≤id→Tune h' id 0 0 0 (clampT t)→K (.ptr (some (id,0))) h'):ACalls Tryz.prog 161 [t.av] h K:=
 New_calls fun id h' hw' hl' hn hr=>hk id h' hw' hl' hn (by unfold Tune;rw[tune_zero];exact hr)
theorem bldp {p:Option (Nat×Nat)}:abuild [AV.ptr none] [(0,1,AV.ptr p)]=some [AV.ptr p]:=by simp[abuild,putAt,AV.held,AV.cells]
theorem sNew_calls {t:Tb} {h:H} {K:AV→H→Prop} (hk:∀e u h',h'.wf→h.le h'→h.next≤u→u<e→Eng 1 h' e u→Tune h' u 0 0 0 (clampT t)→K (.ptr (some (e,0))) h'):ACalls Tryz.prog 154 [t.av] h K:=by
 refine in_school_New (by simp) fun hw=> ?_
 unfold c_school_New
 have hl1:=H.le_new hw (H.le_refl h) ⟨some 23,11,t.cells⟩
 have hn1:h.next<(h.new ⟨some 23,11,t.cells⟩).next:=Nat.lt_succ_self _
 simp only[go_sem,av_held,av_cells,cells_len,true_and,gsT (H.rows_new h _)]
 refine tNew_calls fun u h1 hw1 hl2 hn2 ht=> ?_
 simp only[go_sem,bldp]
 simp only[AV.held,AV.cells,true_and,go_sem]
 have hl3:=H.le_new hw1 (H.le_refl h1) ⟨some 164,1,[AV.ptr (some (u,0))]⟩
 exact fun hw'=>hk _ u _ hw' (H.le_trans hl1 (H.le_trans hl2 hl3)) (by omega) (H.row_lt hw1 ht) ⟨_,u,H.rows_new _ _,rfl,rfl⟩ (ht.mono hl3)
theorem kNew_calls {t:Tb} {h:H} {K:AV→H→Prop} (hk:∀e u h',h'.wf→h.le h'→h.next≤u→u<e→Eng 2 h' e u→Tune h' u 0 0 0 (clampT t)→K (.ptr (some (e,0))) h'):ACalls Tryz.prog 142 [t.av] h K:=by
 refine in_kara_New (by simp) fun hw=> ?_
 unfold c_kara_New
 have hl1:=H.le_new hw (H.le_refl h) ⟨some 23,11,t.cells⟩
 have hn1:h.next<(h.new ⟨some 23,11,t.cells⟩).next:=Nat.lt_succ_self _
 simp only[go_sem,av_held,av_cells,cells_len,true_and,gsT (H.rows_new h _)]
 refine sNew_calls fun e u h1 hw1 hl2 hn2 _ he ht=> ?_
 simp only[go_sem,bldp]
 simp only[AV.held,AV.cells,true_and,go_sem]
 have hl3:=H.le_new hw1 (H.le_refl h1) ⟨some 161,1,[AV.ptr (some (e,0))]⟩
 exact fun hw'=>hk _ u _ hw' (H.le_trans hl1 (H.le_trans hl2 hl3)) (by omega) (H.row_lt hw1 ht) ⟨_,e,H.rows_new _ _,rfl,he.mono hl3⟩ (ht.mono hl3)
theorem toNew_calls {t:Tb} {h:H} {K:AV→H→Prop} (hk:∀e u h',h'.wf→h.le h'→h.next≤u→u<e→Eng 3 h' e u→Tune h' u 0 0 0 (clampT t)→K (.ptr (some (e,0))) h'):ACalls Tryz.prog 126 [t.av] h K:=by
 refine in_toom_New (by simp) fun hw=> ?_
 unfold c_toom_New
 have hl1:=H.le_new hw (H.le_refl h) ⟨some 23,11,t.cells⟩
 have hn1:h.next<(h.new ⟨some 23,11,t.cells⟩).next:=Nat.lt_succ_self _
 simp only[go_sem,av_held,av_cells,cells_len,true_and,gsT (H.rows_new h _)]
 refine kNew_calls fun e u h1 hw1 hl2 hn2 _ he ht=> ?_
 simp only[go_sem,bldp]
 simp only[AV.held,AV.cells,true_and,go_sem]
 have hl3:=H.le_new hw1 (H.le_refl h1) ⟨some 158,1,[AV.ptr (some (e,0))]⟩
 exact fun hw'=>hk _ u _ hw' (H.le_trans hl1 (H.le_trans hl2 hl3)) (by omega) (H.row_lt hw1 ht) ⟨_,e,H.rows_new _ _,rfl,he.mono hl3⟩ (ht.mono hl3)
theorem mNew_calls {t:Tb} {h:H} {K:AV→H→Prop} (hk:∀e u h',h'.wf→h.le h'→h.next≤u→u<e→Eng 4 h' e u→Tune h' u 0 0 0 (clampT t)→K (.ptr (some (e,0))) h'):ACalls Tryz.prog 111 [t.av] h K:=by
 refine in_mul_New (by simp) fun hw=> ?_
 unfold c_mul_New
 have hl1:=H.le_new hw (H.le_refl h) ⟨some 23,11,t.cells⟩
 have hn1:h.next<(h.new ⟨some 23,11,t.cells⟩).next:=Nat.lt_succ_self _
 simp only[go_sem,av_held,av_cells,cells_len,true_and,gsT (H.rows_new h _)]
 refine toNew_calls fun e u h1 hw1 hl2 hn2 _ he ht=> ?_
 simp only[go_sem,bldp]
 simp only[AV.held,AV.cells,true_and,go_sem]
 have hl3:=H.le_new hw1 (H.le_refl h1) ⟨some 155,1,[AV.ptr (some (e,0))]⟩
 exact fun hw'=>hk _ u _ hw' (H.le_trans hl1 (H.le_trans hl2 hl3)) (by omega) (H.row_lt hw1 ht) ⟨_,e,H.rows_new _ _,rfl,he.mono hl3⟩ (ht.mono hl3)
theorem dNew_calls {t:Tb} {h:H} {K:AV→H→Prop} (hk:∀e u h',h'.wf→h.le h'→h.next≤u→u<e→Eng 5 h' e u→Tune h' u 0 0 0 (clampT t)→K (.ptr (some (e,0))) h'):ACalls Tryz.prog 96 [t.av] h K:=by
 refine in_divs_New (by simp) fun hw=> ?_
 unfold c_divs_New
 have hl1:=H.le_new hw (H.le_refl h) ⟨some 23,11,t.cells⟩
 have hn1:h.next<(h.new ⟨some 23,11,t.cells⟩).next:=Nat.lt_succ_self _
 simp only[go_sem,av_held,av_cells,cells_len,true_and,gsT (H.rows_new h _)]
 refine mNew_calls fun e u h1 hw1 hl2 hn2 _ he ht=> ?_
 simp only[go_sem,bldp]
 simp only[AV.held,AV.cells,true_and,go_sem]
 have hl3:=H.le_new hw1 (H.le_refl h1) ⟨some 124,1,[AV.ptr (some (e,0))]⟩
 exact fun hw'=>hk _ u _ hw' (H.le_trans hl1 (H.le_trans hl2 hl3)) (by omega) (H.row_lt hw1 ht) ⟨_,e,H.rows_new _ _,rfl,he.mono hl3⟩ (ht.mono hl3)
end Ab
end Go.Proofs.YtkbglkjpdndkiaaGreatDoor
