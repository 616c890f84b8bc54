import Derived.Lib.Bytealg
import Derived.Lib.IndexBytes
import Derived.Lib.IndexLaws
import Derived.Lib.LastIndexByte
import Derived.Lib.Split
import Derived.Lib.SplitLaws
import Derived.Lib.Strings
import GoSem.Core.Value
import GoSem.Op.String
set_option linter.unusedVariables false
set_option linter.unusedSimpArgs false
section
namespace Go.Mh
open Go.Lib
theorem ba_ext {a b:ByteArray} (h:a.data.toList=b.data.toList):a=b:=by
 cases a with
 | mk a=>cases b with
  | mk b=>congr 1;exact Array.toList_inj.1 h
def mkB (l:List UInt8):ByteArray:=⟨l.toArray⟩
theorem mkB_data (l:List UInt8):(mkB l).data.toList=l:=by simp [mkB]
theorem mkB_size (l:List UInt8):(mkB l).size=l.length:=by show l.toArray.size=_;simp
theorem mkB_of (s:ByteArray):mkB s.data.toList=s:=ba_ext (mkB_data _)
theorem mkB_inj {a b:List UInt8} (h:mkB a=mkB b):a=b:=by rw [← mkB_data a,h,mkB_data]
theorem size_len (s:ByteArray):s.size=s.data.toList.length:=Lib.size_eq s
def okByte (b:UInt8):Bool:=decide (33 ≤ b.toNat) && decide (b.toNat ≤ 126) && !(b.toNat == 47)
def partL (l:List UInt8):Bool:=l.all okByte && !(l == []) && decide (l.length ≤ 64) && !(l == [46]) && !(l == [46,46])
def partB (s:ByteArray):Bool :=
 s.data.toList.all okByte && !(s.data.toList == []) && decide (s.size ≤ 64) && !(s.data.toList == [46]) && !(s.data.toList == [46,46])
theorem partB_eq (s:ByteArray):partB s=partL s.data.toList:=by unfold partB partL;rw [size_len]
def slash:ByteArray:=⟨#[47]⟩
def piecesB (s:ByteArray):List ByteArray:=splitB slash 0 (countB s slash) s
def splitP (p:ByteArray):List ByteArray × Int :=
 if p.data.toList=[47] then ([],0)
 else
  if !hasPrefix p.data.toList [47] || decide (256 < p.size) || decide (16 < (piecesB ⟨(trimPrefix p.data.toList [47]).toArray⟩).length) then ([],60)
  else if (piecesB ⟨(trimPrefix p.data.toList [47]).toArray⟩).any (fun s=>!partB s) then ([],60)
  else (piecesB ⟨(trimPrefix p.data.toList [47]).toArray⟩,0)
def segs:List UInt8→List (List UInt8)
 | []=>[[]]
 | b::l=>if b=47 then []::segs l else match segs l with
  | s::r=>(b::s)::r
  | []=>[[b]]
theorem segs_ne (l:List UInt8):segs l ≠ []:=by
 induction l with
 | nil=>simp [segs]
 | cons b l ih =>
  unfold segs
  split
  ·simp
  ·split <;> simp
theorem segs_plain (l:List UInt8) (h:∀ b ∈ l,b ≠ 47):segs l=[l]:=by
 induction l with
 | nil=>rfl
 | cons b l ih =>
  unfold segs
  rw [if_neg (h b (by simp)),ih (fun x hx=>h x (by simp [hx]))]
theorem segs_slash (l r:List UInt8) (h:∀ b ∈ l,b ≠ 47):segs (l++47::r)=l::segs r:=by
 induction l with
 | nil=>rw [List.nil_append,segs,if_pos rfl]
 | cons b l ih =>
  rw [List.cons_append,segs,if_neg (h b (by simp)),ih (fun x hx=>h x (by simp [hx]))]
theorem indexByte_split (l:List UInt8):(indexByte l 47 = -1∧∀ b ∈ l,b ≠ 47) ∨ ∃ p r,l=p++47::r∧(∀ b ∈ p,b ≠ 47)∧indexByte l 47=p.length:=by
 induction l with
 | nil=>exact .inl ⟨rfl,by simp⟩
 | cons b l ih =>
  by_cases e:b=47
  ·subst e
   exact .inr ⟨[],l,rfl,by simp,by simp [indexByte]⟩
  ·have e':(b == 47)=false:=beq_eq_false_iff_ne.2 e
   rcases ih with ⟨h1,h2⟩ | ⟨p,r,h1,h2,h3⟩
   ·left
    refine ⟨by simp [indexByte,e',h1],fun x hx=>?_⟩
    rcases List.mem_cons.1 hx with rfl | hx
    ·exact e
    ·exact h2 x hx
   ·right
    refine ⟨b::p,r,by rw [h1];rfl,fun x hx=>?_,?_⟩
    ·rcases List.mem_cons.1 hx with rfl | hx
     ·exact e
     ·exact h2 x hx
    ·have:(indexByte l 47 == -1)=false:=beq_eq_false_iff_ne.2 (by omega)
     simp only [indexByte,e',this]
     simp [h3]
theorem splitK_segs (n:Nat):∀ (l:List UInt8) (k:Nat),l.length ≤ n→l.count 47=k→splitK [47] 0 k l=segs l:=by
 induction n with
 | zero =>
  intro l k hl hk
  have:l=[]:=List.eq_nil_of_length_eq_zero (by omega)
  subst this
  simp at hk
  subst hk
  rfl
 | succ n ih =>
  intro l k hl hk
  rcases indexByte_split l with ⟨h1,h2⟩ | ⟨p,r,h1,h2,h3⟩
  ·have hc:l.count 47=0:=List.count_eq_zero.2 (fun h=>h2 47 h rfl)
   rw [hc] at hk
   subst hk
   rw [segs_plain l h2];rfl
  ·have hp:p.count 47=0:=List.count_eq_zero.2 (fun h=>h2 47 h rfl)
   rw [h1,List.count_append,hp,List.count_cons_self,Nat.zero_add] at hk
   subst hk
   have hi:index l [47]=p.length:=by rw [index_one];exact h3
   unfold splitK
   rw [hi,if_neg (by simp)]
   have e1:((p.length:Int)).toNat=p.length:=by omega
   rw [e1,Nat.add_zero,h1,List.take_left' rfl]
   have e2:(p++47::r).drop (p.length + ([47]:List UInt8).length)=r:=by
    rw [List.drop_append,List.drop_of_length_le (by omega)];simp
   rw [e2,segs_slash p r h2]
   congr 1
   refine ih r _ ?_ rfl
   rw [h1] at hl
   simp at hl
   omega
theorem piecesB_data (s:ByteArray):(piecesB s).map (·.data.toList)=segs s.data.toList:=by
 unfold piecesB
 rw [splitB_data]
 refine splitK_segs s.data.toList.length _ _ (Nat.le_refl _) ?_
 show List.count 47 s.data.toList=Lib.count s.data.toList [47]
 rw [count_one]
theorem piecesB_eq (s:ByteArray):piecesB s=(segs s.data.toList).map mkB:=by
 rw [← piecesB_data,List.map_map]
 conv=>lhs;rw [← List.map_id (piecesB s)]
 exact List.map_congr_left fun x _=>(mkB_of x).symm
def okL (l:List UInt8):Bool :=
 (match l with
  | 47::r=>(segs r).all partL && decide ((segs r).length ≤ 16)
  | _=>false) && decide (l.length ≤ 256)
def okP (l:List UInt8):Bool:=decide (l=[47]) || okL l
def partsL (l:List UInt8):List (List UInt8):=if l=[47] then [] else if okL l then segs l.tail else []
def partsP (p:ByteArray):List ByteArray:=(partsL p.data.toList).map mkB
def code (b:Bool):Int:=if b then 0 else 60
theorem okL_root:okL [47]=false:=by decide
theorem hasPrefix_slash (l:List UInt8):hasPrefix l [47]=(match l with | 47::_=>true | _=>false):=by
 unfold hasPrefix
 cases l with
 | nil=>rfl
 | cons b l =>
  by_cases e:b=47
  ·subst e;simp
  ·have h1:(47 == b)=false:=beq_eq_false_iff_ne.2 (fun h=>e h.symm)
   simp only [List.isPrefixOf,h1,Bool.false_and]
   split
   ·rename_i h;simp at h;exact absurd h.1 e
   ·rfl
theorem splitP_eq (p:ByteArray):splitP p=(partsP p,code (okP p.data.toList)):=by
 unfold splitP partsP partsL okP
 by_cases h:p.data.toList=[47]
 ·simp [h,code]
 ·simp only [if_neg h,decide_eq_false h,Bool.false_or]
  rw [hasPrefix_slash,size_len p]
  generalize p.data.toList=l at h
  unfold okL trimPrefix
  rw [hasPrefix_slash]
  cases l with
  | nil=>simp [code]
  | cons b r =>
   by_cases e:b=47
   ·subst e
    simp only [if_true,List.length_cons,List.length_nil,Nat.zero_add,List.drop_succ_cons,List.drop_zero,List.tail_cons]
    have hp:piecesB ⟨r.toArray⟩=(segs r).map mkB:=by rw [piecesB_eq]
    rw [hp]
    have ha:((segs r).map mkB).any (fun s=>!partB s) = !((segs r).all partL):=by
     rw [List.any_map]
     induction segs r with
     | nil=>rfl
     | cons x l ih=>simp only [List.any_cons,List.all_cons,Function.comp,partB_eq,mkB_data] at *;rw [ih];simp
    rw [ha,List.length_map]
    by_cases h1:256 < r.length + 1
    ·have:decide (r.length + 1 ≤ 256)=false:=decide_eq_false (by omega)
     have h4:¬ r.length ≤ 255:=by omega
     simp [h1,this,h4,code]
    ·have h1':decide (r.length + 1 ≤ 256)=true:=decide_eq_true (by omega)
     by_cases h2:16 < (segs r).length
     ·have:decide ((segs r).length ≤ 16)=false:=decide_eq_false (by omega)
      simp [h1,h2,this,code]
     ·have h2':decide ((segs r).length ≤ 16)=true:=decide_eq_true (by omega)
      cases h3:(segs r).all partL
      ·simp [h1,h2,h1',h2',h3,code]
      ·have h4:r.length ≤ 255:=by omega
       simp [h1,h2,h1',h2',h3,h4,code]
   ·have hm:(match b::r with | 47::_=>true | _=>false)=false:=by
     split
     ·rename_i h';simp at h';exact absurd h'.1 e
     ·rfl
    have hm2:(match b::r with | 47::r=>(segs r).all partL && decide ((segs r).length ≤ 16) | _=>false)=false:=by
     split
     ·rename_i h';simp at h';exact absurd h'.1 e
     ·rfl
    simp [hm,hm2,code]
def flat (ps:List (List UInt8)):List UInt8:=ps.flatMap (47::·)
def joinL (ps:List (List UInt8)):List UInt8:=if ps=[] then [47] else flat ps
def validL (ps:List (List UInt8)):Bool:=ps.all partL && decide (ps.length ≤ 16) && decide ((flat ps).length ≤ 256)
theorem flat_nil:flat []=[]:=rfl
theorem flat_cons (p:List UInt8) (ps:List (List UInt8)):flat (p::ps)=47::(p++flat ps):=by simp [flat]
theorem flat_append (ps qs:List (List UInt8)):flat (ps++qs)=flat ps++flat qs:=by simp [flat]
theorem part_plain {p:List UInt8} (h:partL p=true):∀ b ∈ p,b ≠ 47:=by
 intro b hb e
 subst e
 unfold partL at h
 simp only [Bool.and_eq_true] at h
 have:=List.all_eq_true.1 h.1.1.1.1 _ hb
 exact absurd this (by decide)
theorem part_ne {p:List UInt8} (h:partL p=true):p ≠ []:=by
 intro e;subst e;exact absurd h (by decide)
theorem segs_flat (ps:List (List UInt8)):∀ p,(∀ b ∈ p,b ≠ 47)→(∀ q ∈ ps,∀ b ∈ q,b ≠ 47)→segs (p++flat ps)=p::ps:=by
 induction ps with
 | nil=>intro p hp _;rw [flat_nil,List.append_nil];exact segs_plain p hp
 | cons q ps ih =>
  intro p hp hq
  rw [flat_cons,segs_slash p _ hp,ih q (hq q (by simp)) (fun x hx=>hq x (by simp [hx]))]
theorem segs_join (l:List UInt8):∃ p ps,segs l=p::ps∧p++flat ps=l:=by
 induction l with
 | nil=>exact ⟨[],[],rfl,rfl⟩
 | cons b l ih =>
  obtain ⟨p,ps,h1,h2⟩:=ih
  by_cases e:b=47
  ·subst e
   refine ⟨[],p::ps,by rw [segs,if_pos rfl,h1],?_⟩
   rw [flat_cons,h2];rfl
  ·refine ⟨b::p,ps,by rw [segs,if_neg e,h1],?_⟩
   rw [List.cons_append,h2]
theorem okL_iff {l:List UInt8}:okL l=true ↔ ∃ ps,ps ≠ []∧validL ps=true∧l=flat ps:=by
 constructor
 ·intro h
  unfold okL at h
  rw [Bool.and_eq_true] at h
  obtain ⟨h,hl⟩:=h
  split at h
  ·rename_i r
   rw [Bool.and_eq_true] at h
   obtain ⟨p,ps,h1,h2⟩:=segs_join r
   refine ⟨p::ps,by simp,?_,?_⟩
   ·unfold validL
    rw [← h1,h.1,h.2,h1,flat_cons,h2]
    simpa using hl
   ·rw [flat_cons,h2]
  ·simp at h
 ·rintro ⟨ps,hne,hv,rfl⟩
  cases ps with
  | nil=>exact absurd rfl hne
  | cons p ps =>
   unfold validL at hv
   simp only [Bool.and_eq_true] at hv
   obtain ⟨⟨h1,h2⟩,h3⟩:=hv
   have hs:segs (p++flat ps)=p::ps:=by
    have ha:=List.all_eq_true.1 h1
    exact segs_flat ps p (part_plain (ha p (by simp))) (fun q hq=>part_plain (ha q (by simp [hq])))
   unfold okL
   rw [h3,flat_cons]
   simp only [hs,h1,h2]
   rfl
theorem parts_flat {ps:List (List UInt8)} (h:validL ps=true) (hne:ps ≠ []):okL (flat ps)=true∧partsL (flat ps)=ps∧flat ps ≠ [47]:=by
 have ho:okL (flat ps)=true:=okL_iff.2 ⟨ps,hne,h,rfl⟩
 have hr:flat ps ≠ [47]:=fun e=>by rw [e] at ho;exact absurd ho (by decide)
 refine ⟨ho,?_,hr⟩
 unfold partsL
 rw [if_neg hr,if_pos ho]
 cases ps with
 | nil=>exact absurd rfl hne
 | cons p ps =>
  unfold validL at h
  simp only [Bool.and_eq_true] at h
  have ha:=List.all_eq_true.1 h.1.1
  rw [flat_cons,List.tail_cons]
  exact segs_flat ps p (part_plain (ha p (by simp))) (fun q hq=>part_plain (ha q (by simp [hq])))
theorem ok_join {ps:List (List UInt8)} (h:validL ps=true):okP (joinL ps)=true∧partsL (joinL ps)=ps:=by
 unfold joinL
 by_cases e:ps=[]
 ·subst e;exact ⟨by decide,by decide⟩
 ·rw [if_neg e]
  obtain ⟨h1,h2,h3⟩:=parts_flat h e
  exact ⟨by unfold okP;rw [h1];simp,h2⟩
theorem join_ok {l:List UInt8} (h:okP l=true):validL (partsL l)=true∧joinL (partsL l)=l:=by
 unfold okP at h
 by_cases e:l=[47]
 ·subst e;exact ⟨by decide,by decide⟩
 ·rw [decide_eq_false e,Bool.false_or] at h
  obtain ⟨ps,hne,hv,rfl⟩:=okL_iff.1 h
  obtain ⟨h1,h2,h3⟩:=parts_flat hv hne
  rw [h2]
  exact ⟨hv,by unfold joinL;rw [if_neg hne]⟩
theorem parts_bad {l:List UInt8} (h:okP l=false):partsL l=[]:=by
 unfold okP at h
 simp only [Bool.or_eq_false_iff,decide_eq_false_iff_not] at h
 unfold partsL
 rw [if_neg h.1,h.2];rfl
theorem parts_nil {l:List UInt8} (h:okP l=true):partsL l=[] ↔ l=[47]:=by
 constructor
 ·intro e
  have:=(join_ok h).2
  rw [e] at this
  exact this.symm
 ·intro e;subst e;decide
theorem parts_inj {a b:List UInt8} (ha:okP a=true) (hb:okP b=true) (h:partsL a=partsL b):a=b:=by
 rw [← (join_ok ha).2,← (join_ok hb).2,h]
theorem valid_prefix {ps qs:List (List UInt8)} (h:validL (ps++qs)=true):validL ps=true:=by
 unfold validL at *
 rw [flat_append] at h
 simp only [List.all_append,Bool.and_eq_true,decide_eq_true_eq,List.length_append] at *
 exact ⟨⟨h.1.1.1,by omega⟩,by omega⟩
theorem lastIndex_at (s:ByteArray) (x y:List UInt8) (h:s.data.toList=x++47::y) (hy:∀ b ∈ y,b ≠ 47):lastIndexByte s 47=x.length:=by
 have hs:=size_len s
 rw [h] at hs
 simp at hs
 have hget:∀ j,j < s.size→s.data[j]! = (x++47::y)[j]!:=by
  intro j hj
  rw [← h,getElem!_pos s.data j hj,getElem!_pos s.data.toList j (by rw [← size_len];exact hj)]
  simp
 rcases lastIndexByte_spec s 47 with ⟨h1,h2⟩ | ⟨i,hi,h1,h2,h3⟩
 ·have:=h2 x.length (by omega)
  rw [hget _ (by omega)] at this
  simp at this
 ·rw [h1]
  rcases Nat.lt_trichotomy i x.length with hlt | heq | hgt
  ·have:=h3 x.length hlt (by omega)
   rw [hget _ (by omega)] at this
   simp at this
  ·rw [heq]
  ·exfalso
   rw [hget _ hi] at h2
   have hlen:i < (x++47::y).length:=by rw [← h,← size_len];exact hi
   rw [getElem!_pos _ i hlen,List.getElem_append_right (by omega)] at h2
   obtain ⟨m,hm⟩:∃ m,i - x.length=m + 1:=⟨i - x.length - 1,by omega⟩
   have hm':m < y.length:=by simp at hlen;omega
   have e:(47::y)[i - x.length]'(by simp;omega)=y[m]:=by simp [hm]
   rw [e] at h2
   refine hy y[m] (List.getElem_mem hm') (UInt8.toNat_inj.1 ?_)
   simp;omega
def upL (l:List UInt8):List UInt8:=joinL (partsL l).dropLast
def baseL (l:List UInt8):List UInt8:=(partsL l).getLast?.getD []
theorem last_split {l:List UInt8} (h:okL l=true):∃ init last,partsL l=init++[last]∧l=flat init++47::last∧partL last=true∧upL l=joinL init∧baseL l=last∧validL init=true:=by
 obtain ⟨ps,hne,hv,rfl⟩:=okL_iff.1 h
 obtain ⟨h1,h2,h3⟩:=parts_flat hv hne
 refine ⟨ps.dropLast,ps.getLast hne,by rw [h2,List.dropLast_concat_getLast],?_,?_,by unfold upL;rw [h2],?_,?_⟩
 ·conv=>lhs;rw [← List.dropLast_concat_getLast hne]
  rw [flat_append,flat_cons,flat_nil,List.append_nil]
 ·unfold validL at hv
  simp only [Bool.and_eq_true] at hv
  exact List.all_eq_true.1 hv.1.1 _ (List.getLast_mem hne)
 ·unfold baseL;rw [h2,List.getLast?_eq_some_getLast hne];rfl
 ·rw [← List.dropLast_concat_getLast hne] at hv
  exact valid_prefix hv
end Go.Mh
end
section
namespace Go.Tr
open Go.Mh
abbrev Nm:=List UInt8
abbrev Pt:=List Nm
structure Pc where
 c:Int
 k:Int
 t:Int
 s:Int
 u:Int
inductive Row where
 | file (b:Nat) (sl:Value) (o:Bool) (hd:Int) (ps:List Pc)
 | dir (b m clk:Nat) (q c:Int) (ks:List (Nm × Nat))
def Row.blk:Row→Nat
 | .file b _ _ _ _=>b
 | .dir b _ _ _ _ _=>b
abbrev St:=Pt→Option Row
def below (p k:Pt):Bool:=p.isPrefixOf k && p.length < k.length
def within (p k:Pt):Bool:=p.isPrefixOf k
theorem within_iff {p k:Pt}:within p k=true ↔ ∃ r,k=p++r:=by
 unfold within
 rw [List.isPrefixOf_iff_prefix]
 constructor
 ·rintro ⟨r,rfl⟩;exact ⟨r,rfl⟩
 ·rintro ⟨r,rfl⟩;exact ⟨r,rfl⟩
theorem within_app (p r:Pt):within p (p++r)=true:=within_iff.2 ⟨r,rfl⟩
theorem within_refl (p:Pt):within p p=true:=within_iff.2 ⟨[],by simp⟩
theorem within_trans {p q r:Pt} (h:within p q=true) (h':within q r=true):within p r=true:=by
 obtain ⟨a,rfl⟩:=within_iff.1 h
 obtain ⟨b,rfl⟩:=within_iff.1 h'
 exact within_iff.2 ⟨a++b,by simp⟩
theorem below_iff {p k:Pt}:below p k=true ↔ ∃ r,r ≠ []∧k=p++r:=by
 unfold below
 rw [Bool.and_eq_true,decide_eq_true_eq]
 constructor
 ·rintro ⟨h1,h2⟩
  obtain ⟨r,rfl⟩:=within_iff.1 h1
  refine ⟨r,?_,rfl⟩
  rintro rfl
  simp at h2
 ·rintro ⟨r,hr,rfl⟩
  refine ⟨within_app p r,?_⟩
  have:0 < r.length:=List.length_pos_iff.2 hr
  simp;omega
def findF (σ:St):Pt→Pt→Except Int Row
 | p,[]=>match σ p with
  | some r=>.ok r
  | none=>.error 70
 | p,nm::l=>match σ p with
  | some (.dir _ _ _ _ _ _)=>match σ (p++[nm]) with
   | some _=>findF σ (p++[nm]) l
   | none=>.error 70
  | some (.file _ _ _ _ _)=>.error 72
  | none=>.error 70
structure Ok (σ:St) (K:List Pt):Prop where
 mem:∀ p,(σ p).isSome=true ↔ p ∈ K
 nodup:K.Nodup
 root:∃ b m clk q c ks,σ []=some (.dir b m clk q c ks)
 up:∀ p nm,(σ (p++[nm])).isSome=true→∃ b m clk q c ks,σ p=some (.dir b m clk q c ks)
 kids:∀ p b m clk q c ks,σ p=some (.dir b m clk q c ks)→∀ nm,nm ∈ ks.map (·.1) ↔ (σ (p++[nm])).isSome=true
 knod:∀ p b m clk q c ks,σ p=some (.dir b m clk q c ks)→(ks.map (·.1)).Nodup
 born:∀ p b m clk q c ks,σ p=some (.dir b m clk q c ks)→(ks.map (·.2)).Nodup∧∀ x ∈ ks,x.2 < clk
 valid:∀ p ∈ K,validL p=true
 count:∀ p b m clk q c ks,σ p=some (.dir b m clk q c ks)→c=((K.filter (below p)).length:Int)
theorem Ok.ups {σ:St} {K:List Pt} (o:Ok σ K):∀ (r p:Pt),r ≠ []→(σ (p++r)).isSome=true→∃ b m clk q c ks,σ p=some (.dir b m clk q c ks):=by
 intro r
 induction r with
 | nil=>intro p h;exact absurd rfl h
 | cons nm r ih =>
  intro p _ h
  by_cases hr:r=[]
  ·subst hr;exact o.up p nm h
  ·have h2:(σ ((p++[nm])++r)).isSome=true:=by simpa using h
   obtain ⟨b,m,clk,q,c,ks,hd⟩:=ih (p++[nm]) hr h2
   exact o.up p nm (by rw [hd];rfl)
theorem findF_ok {σ:St}:∀ {l p:Pt} {r:Row},findF σ p l=.ok r→σ (p++l)=some r:=by
 intro l
 induction l with
 | nil =>
  intro p r h
  unfold findF at h
  split at h
  ·rename_i hs;cases h;simpa using hs
  ·cases h
 | cons nm l ih =>
  intro p r h
  unfold findF at h
  split at h
  ·split at h
   ·have:=ih h
    simpa using this
   ·cases h
  ·cases h
  ·cases h
end Go.Tr
end
section
namespace Go.Tr
open Go.Mh
def addC (l:Pt) (w:Int) (σ:St):St:=fun p=>match σ p with
 | some (.dir b m clk q c ks)=>if within p l then some (.dir b m clk q (c + w) ks) else some (.dir b m clk q c ks)
 | r=>r
def addK (l:Pt) (nm:Nm) (σ:St):St:=fun p=>match σ p with
 | some (.dir b m clk q c ks)=>if p=l then some (.dir b m (clk + 1) q c (ks++[(nm,clk)])) else some (.dir b m clk q c ks)
 | r=>r
def delK (l:Pt) (nm:Nm) (σ:St):St:=fun p=>match σ p with
 | some (.dir b m clk q c ks)=>if p=l then some (.dir b m clk q c (ks.filter fun x=>!(x.1 == nm))) else some (.dir b m clk q c ks)
 | r=>r
def graft (d:Pt) (δ σ:St):St:=fun p=>if within d p then δ (p.drop d.length) else σ p
def prune (d:Pt) (σ:St):St:=fun p=>if within d p then none else σ p
def sub (d:Pt) (σ:St):St:=fun r=>σ (d++r)
structure OkD (σ:St) (K:List Pt):Prop where
 mem:∀ p,(σ p).isSome=true ↔ p ∈ K
 nodup:K.Nodup
 up:∀ p nm,(σ (p++[nm])).isSome=true→∃ b m clk q c ks,σ p=some (.dir b m clk q c ks)
 kids:∀ p b m clk q c ks,σ p=some (.dir b m clk q c ks)→∀ nm,nm ∈ ks.map (·.1) ↔ (σ (p++[nm])).isSome=true
 knod:∀ p b m clk q c ks,σ p=some (.dir b m clk q c ks)→(ks.map (·.1)).Nodup
 born:∀ p b m clk q c ks,σ p=some (.dir b m clk q c ks)→(ks.map (·.2)).Nodup∧∀ x ∈ ks,x.2 < clk
 count:∀ p b m clk q c ks,σ p=some (.dir b m clk q c ks)→c=((K.filter (below p)).length:Int)
theorem OkD.ups {σ:St} {K:List Pt} (o:OkD σ K):∀ (r p:Pt),r ≠ []→(σ (p++r)).isSome=true→∃ b m clk q c ks,σ p=some (.dir b m clk q c ks):=by
 intro r
 induction r with
 | nil=>intro p h;exact absurd rfl h
 | cons nm r ih =>
  intro p _ h
  by_cases hr:r=[]
  ·subst hr;exact o.up p nm h
  ·have h2:(σ ((p++[nm])++r)).isSome=true:=by simpa using h
   obtain ⟨b,m,clk,q,c,ks,hd⟩:=ih (p++[nm]) hr h2
   exact o.up p nm (by rw [hd];rfl)
theorem OkD.none_of {σ:St} {K:List Pt} (o:OkD σ K) {d p:Pt} (h:σ d=none) (hw:within d p=true):σ p=none:=by
 obtain ⟨r,rfl⟩:=within_iff.1 hw
 by_cases hr:r=[]
 ·subst hr;rw [List.append_nil];exact h
 ·cases hs:σ (d++r) with
  | none=>rfl
  | some x =>
   obtain ⟨_,_,_,_,_,_,hd⟩:=o.ups r d hr (by rw [hs];rfl)
   rw [h] at hd;cases hd
theorem addC_some {l:Pt} {w:Int} {σ:St} {p:Pt}:(addC l w σ p).isSome=(σ p).isSome:=by
 unfold addC
 split
 ·rename_i h;rw [h];split <;> rfl
 ·rfl
theorem addK_some {l:Pt} {nm:Nm} {σ:St} {p:Pt}:(addK l nm σ p).isSome=(σ p).isSome:=by
 unfold addK
 split
 ·rename_i h;rw [h];split <;> rfl
 ·rfl
theorem delK_some {l:Pt} {nm:Nm} {σ:St} {p:Pt}:(delK l nm σ p).isSome=(σ p).isSome:=by
 unfold delK
 split
 ·rename_i h;rw [h];split <;> rfl
 ·rfl
theorem addC_dir {l:Pt} {w:Int} {σ:St} {p:Pt} {b m clk:Nat} {q c:Int} {ks:List (Nm × Nat)} (h:addC l w σ p=some (.dir b m clk q c ks)) :
  σ p=some (.dir b m clk q (c - (if within p l then w else 0)) ks):=by
 unfold addC at h
 split at h
 ·rename_i hs
  split at h
  ·rename_i hw;cases h;rw [hs,if_pos hw];congr 2;omega
  ·rename_i hw;cases h;rw [hs,if_neg hw];congr 2;omega
 ·rename_i h2;exact absurd h (h2 _ _ _ _ _ _)
theorem addC_of {l:Pt} {w:Int} {σ:St} {p:Pt} {b m clk:Nat} {q c:Int} {ks:List (Nm × Nat)} (h:σ p=some (.dir b m clk q c ks)) :
  addC l w σ p=some (.dir b m clk q (c + (if within p l then w else 0)) ks):=by
 unfold addC
 rw [h]
 simp only
 split
 ·rfl
 ·congr 2;omega
theorem addC_file {l:Pt} {w:Int} {σ:St} {p:Pt} {b:Nat} {sl:Value} {o:Bool} {hd:Int} {ps:List Pc}:addC l w σ p=some (.file b sl o hd ps) ↔ σ p=some (.file b sl o hd ps):=by
 unfold addC
 split
 ·rename_i hs
  rw [hs]
  split <;> exact ⟨fun h=>(by cases h),fun h=>(by cases h)⟩
 ·exact Iff.rfl
theorem addK_dir {l:Pt} {nm:Nm} {σ:St} {p:Pt} {b m clk:Nat} {q c:Int} {ks:List (Nm × Nat)} (h:addK l nm σ p=some (.dir b m clk q c ks)) :
  (p ≠ l∧σ p=some (.dir b m clk q c ks)) ∨ (p=l∧∃ clk0 ks0,σ p=some (.dir b m clk0 q c ks0)∧clk=clk0 + 1∧ks=ks0++[(nm,clk0)]):=by
 unfold addK at h
 split at h
 ·rename_i hs
  split at h
  ·rename_i hp;cases h;exact .inr ⟨hp,_,_,hs,rfl,rfl⟩
  ·rename_i hp;cases h;exact .inl ⟨hp,hs⟩
 ·rename_i h2;exact absurd h (h2 _ _ _ _ _ _)
theorem delK_dir {l:Pt} {nm:Nm} {σ:St} {p:Pt} {b m clk:Nat} {q c:Int} {ks:List (Nm × Nat)} (h:delK l nm σ p=some (.dir b m clk q c ks)) :
  (p ≠ l∧σ p=some (.dir b m clk q c ks)) ∨ (p=l∧∃ ks0,σ p=some (.dir b m clk q c ks0)∧ks=ks0.filter fun x=>!(x.1 == nm)):=by
 unfold delK at h
 split at h
 ·rename_i hs
  split at h
  ·rename_i hp;cases h;exact .inr ⟨hp,_,hs,rfl⟩
  ·rename_i hp;cases h;exact .inl ⟨hp,hs⟩
 ·rename_i h2;exact absurd h (h2 _ _ _ _ _ _)
theorem drop_within {d p:Pt} (h:within d p=true):d++p.drop d.length=p:=by
 obtain ⟨r,rfl⟩:=within_iff.1 h
 simp
theorem below_app {d p k:Pt}:below (d++p) (d++k)=below p k:=by
 rw [Bool.eq_iff_iff,below_iff,below_iff]
 constructor
 ·rintro ⟨r,h1,h2⟩
  exact ⟨r,h1,List.append_cancel_left (as:=d) (by rw [h2,List.append_assoc])⟩
 ·rintro ⟨r,h1,rfl⟩
  exact ⟨r,h1,by simp⟩
theorem not_within_child {l p:Pt} {nm x:Nm} (hp:within (l++[nm]) p=false) (h:within (l++[nm]) (p++[x])=true):p=l∧x=nm:=by
 obtain ⟨r,hr⟩:=within_iff.1 h
 rcases List.eq_nil_or_concat r with rfl | ⟨r',y,rfl⟩
 ·rw [List.append_nil] at hr
  obtain ⟨h1,h2⟩:=List.append_inj' hr rfl
  exact ⟨h1,by simpa using h2⟩
 ·exfalso
  rw [← List.concat_eq_append,← List.concat_eq_append] at hr
  simp only [List.concat_eq_append,← List.append_assoc] at hr
  obtain ⟨h1,_⟩:=List.append_inj' hr rfl
  have:within (l++[nm]) p=true:=within_iff.2 ⟨r',by rw [h1]⟩
  rw [hp] at this;cases this
theorem below_graft {l p x:Pt} {nm:Nm} (hp:within (l++[nm]) p=false):below p (l++[nm]++x)=within p l:=by
 rw [Bool.eq_iff_iff,below_iff,within_iff]
 constructor
 ·rintro ⟨r,h1,h2⟩
  rw [List.append_assoc] at h2
  rcases List.append_eq_append_iff.1 h2 with ⟨a,h3,h4⟩ | ⟨a,h3,h4⟩
  ·
   cases a with
   | nil=>exact ⟨[],by simpa using h3.symm⟩
   | cons y a =>
    exfalso
    simp only [List.cons_append,List.nil_append,List.cons.injEq] at h4
    have:within (l++[nm]) p=true:=within_iff.2 ⟨a,by rw [h3,← h4.1];simp⟩
    rw [hp] at this;cases this
  ·exact ⟨a,h3⟩
 ·rintro ⟨r,rfl⟩
  exact ⟨r++[nm]++x,by simp,by simp⟩
theorem nodup_append_disj {α:Type} {a b:List α} (ha:a.Nodup) (hb:b.Nodup) (h:∀ x ∈ a,x ∈ b→False):(a++b).Nodup :=
 List.nodup_append.2 ⟨ha,hb,fun x hx y hy e=>h x hx (e ▸ hy)⟩
theorem nodup_map_inj {α β:Type} {f:α→β} (hf:∀ x y,f x=f y→x=y) {l:List α} (h:l.Nodup):(l.map f).Nodup:=by
 induction l with
 | nil=>exact List.nodup_nil
 | cons x l ih =>
  rw [List.nodup_cons] at h
  rw [List.map_cons,List.nodup_cons]
  refine ⟨fun hm=>?_,ih h.2⟩
  obtain ⟨y,hy,e⟩:=List.mem_map.1 hm
  exact h.1 (hf _ _ e ▸ hy)
theorem OkD.graft {σ δ:St} {K D:List Pt} {l:Pt} {nm:Nm} {w:Int} (o:OkD σ K) (hl:∃ b m clk q c ks,σ l=some (.dir b m clk q c ks)) (hn:σ (l++[nm])=none) (oδ:OkD δ D) (hr:(δ []).isSome=true) (hw:w=(D.length:Int)) :
  OkD (graft (l++[nm]) δ (addK l nm (addC l w σ))) (K++D.map (l++[nm]++·)):=by
 have inj:∀ x y:Pt,l++[nm]++x=l++[nm]++y→x=y:=fun x y h=>List.append_cancel_left h
 have out:∀ p,within (l++[nm]) p=true→p ∉ K:=fun p hp hk=>by
  have:=(o.mem p).2 hk
  rw [o.none_of hn hp] at this;cases this
 have inn:∀ p,within (l++[nm]) p=true→Go.Tr.graft (l++[nm]) δ (addK l nm (addC l w σ)) p=δ (p.drop (l++[nm]).length):=fun p hp=>by unfold Go.Tr.graft;rw [if_pos hp]
 have ino:∀ p,within (l++[nm]) p=false→Go.Tr.graft (l++[nm]) δ (addK l nm (addC l w σ)) p=addK l nm (addC l w σ) p:=fun p hp=>by unfold Go.Tr.graft;rw [if_neg (by rw [hp];exact Bool.false_ne_true)]
 have kk:∀ p,p ∈ D.map (l++[nm]++·) ↔ within (l++[nm]) p=true∧p.drop (l++[nm]).length ∈ D:=by
  intro p
  rw [List.mem_map]
  constructor
  ·rintro ⟨x,hx,rfl⟩
   exact ⟨within_app _ _,by rw [List.drop_left];exact hx⟩
  ·rintro ⟨h1,h2⟩
   exact ⟨_,h2,drop_within h1⟩
 have lnot:within (l++[nm]) l=false:=by
  cases h:within (l++[nm]) l with
  | false=>rfl
  | true =>
   obtain ⟨r,hr⟩:=within_iff.1 h
   have:=congrArg List.length hr
   simp at this
 -- a directory that stands in the new tree outside of what was laid
 have old:∀ p b m clk q c ks,within (l++[nm]) p=false→addK l nm (addC l w σ) p=some (.dir b m clk q c ks) →
   ∃ clk0 ks0,σ p=some (.dir b m clk0 q (c - (if within p l then w else 0)) ks0)∧((p ≠ l∧clk=clk0∧ks=ks0) ∨ (p=l∧clk=clk0 + 1∧ks=ks0++[(nm,clk0)])):=by
  intro p b m clk q c ks hp h
  rcases addK_dir h with ⟨h1,h2⟩ | ⟨h1,clk0,ks0,h2,h3,h4⟩
  ·exact ⟨clk,ks,addC_dir h2,.inl ⟨h1,rfl,rfl⟩⟩
  ·exact ⟨clk0,ks0,addC_dir h2,.inr ⟨h1,h3,h4⟩⟩
 refine ⟨fun p=>?_,?_,fun p x h=>?_,fun p b m clk q c ks h x=>?_,fun p b m clk q c ks h=>?_,fun p b m clk q c ks h=>?_,fun p b m clk q c ks h=>?_⟩
 ·rw [List.mem_append,kk]
  cases hp:within (l++[nm]) p with
  | true =>
   rw [inn p hp,oδ.mem]
   exact ⟨fun h=>.inr ⟨rfl,h⟩,fun h=>h.elim (fun h=>absurd h (out p hp)) (·.2)⟩
  | false =>
   rw [ino p hp,addK_some,addC_some,o.mem]
   exact ⟨.inl,fun h=>h.elim id (fun h=>by cases h.1)⟩
 ·refine nodup_append_disj o.nodup (nodup_map_inj (f:=(l++[nm]++·)) inj oδ.nodup) fun x h1 h2=>?_
  exact out x ((kk x).1 h2).1 h1
 ·cases hp:within (l++[nm]) p with
  | true =>
   have h1:within (l++[nm]) (p++[x])=true:=within_trans hp (within_app _ _)
   rw [inn _ h1] at h
   rw [inn _ hp]
   obtain ⟨r,rfl⟩:=within_iff.1 hp
   rw [List.drop_left]
   rw [List.append_assoc,List.drop_left] at h
   exact oδ.up r x h
  | false =>
   rw [ino _ hp]
   have hex:∃ b m clk q c ks,σ p=some (.dir b m clk q c ks):=by
    cases h1:within (l++[nm]) (p++[x]) with
    | true =>
     obtain ⟨rfl,rfl⟩:=not_within_child hp h1
     exact hl
    | false =>
     rw [ino _ h1,addK_some,addC_some] at h
     exact o.up p x h
   obtain ⟨b,m,clk,q,c,ks,hd⟩:=hex
   unfold addK
   rw [addC_of hd]
   simp only
   split
   ·exact ⟨_,_,_,_,_,_,rfl⟩
   ·exact ⟨_,_,_,_,_,_,rfl⟩
 ·cases hp:within (l++[nm]) p with
  | true =>
   have h1:within (l++[nm]) (p++[x])=true:=within_trans hp (within_app _ _)
   rw [inn _ h1]
   rw [inn _ hp] at h
   obtain ⟨r,rfl⟩:=within_iff.1 hp
   rw [List.drop_left] at h
   rw [List.append_assoc,List.drop_left]
   exact oδ.kids r _ _ _ _ _ _ h x
  | false =>
   rw [ino _ hp] at h
   obtain ⟨clk0,ks0,h2,h3⟩:=old p _ _ _ _ _ _ hp h
   have hk:=o.kids _ _ _ _ _ _ _ h2 x
   rcases h3 with ⟨h3,rfl,rfl⟩ | ⟨h3,rfl,rfl⟩
   ·have h1:within (l++[nm]) (p++[x])=false:=by
     cases h1:within (l++[nm]) (p++[x]) with
     | false=>rfl
     | true=>exact absurd (not_within_child hp h1).1 h3
    rw [ino _ h1,addK_some,addC_some]
    exact hk
   ·subst h3
    rw [List.map_append,List.mem_append,hk]
    cases h1:within (p++[nm]) (p++[x]) with
    | true =>
     obtain ⟨_,rfl⟩:=not_within_child hp h1
     rw [inn _ h1,List.drop_eq_nil_of_le (by simp)]
     exact ⟨fun _=>hr,fun _=>.inr (by simp)⟩
    | false =>
     rw [ino _ h1,addK_some,addC_some]
     refine ⟨fun h=>h.elim id fun h=>?_,.inl⟩
     simp only [List.map_cons,List.map_nil,List.mem_singleton] at h
     subst h
     rw [within_refl] at h1;cases h1
 ·cases hp:within (l++[nm]) p with
  | true=>rw [inn _ hp] at h;exact oδ.knod _ _ _ _ _ _ _ h
  | false =>
   rw [ino _ hp] at h
   obtain ⟨clk0,ks0,h2,h3⟩:=old p _ _ _ _ _ _ hp h
   have hk:=o.knod _ _ _ _ _ _ _ h2
   rcases h3 with ⟨h3,rfl,rfl⟩ | ⟨h3,rfl,rfl⟩
   ·exact hk
   ·subst h3
    rw [List.map_append]
    refine nodup_append_disj hk (by simp) fun y h4 h5=>?_
    simp only [List.map_cons,List.map_nil,List.mem_singleton] at h5
    subst h5
    have:=(o.kids _ _ _ _ _ _ _ h2 y).1 h4
    rw [hn] at this;cases this
 ·cases hp:within (l++[nm]) p with
  | true=>rw [inn _ hp] at h;exact oδ.born _ _ _ _ _ _ _ h
  | false =>
   rw [ino _ hp] at h
   obtain ⟨clk0,ks0,h2,h3⟩:=old p _ _ _ _ _ _ hp h
   obtain ⟨hk,hk2⟩:=o.born _ _ _ _ _ _ _ h2
   rcases h3 with ⟨h3,rfl,rfl⟩ | ⟨h3,rfl,rfl⟩
   ·exact ⟨hk,hk2⟩
   ·refine ⟨?_,fun x hx=>?_⟩
    ·rw [List.map_append]
     refine nodup_append_disj hk (by simp) fun y h4 h5=>?_
     simp only [List.map_cons,List.map_nil,List.mem_singleton] at h5
     obtain ⟨z,h6,h7⟩:=List.mem_map.1 h4
     have:=hk2 z h6
     omega
    ·rcases List.mem_append.1 hx with hx | hx
     ·have:=hk2 x hx;omega
     ·simp only [List.mem_singleton] at hx;subst hx;exact Nat.lt_succ_self _
 ·rw [List.filter_append,List.length_append,List.filter_map,List.length_map]
  cases hp:within (l++[nm]) p with
  | true =>
   rw [inn _ hp] at h
   have h1:=oδ.count _ _ _ _ _ _ _ h
   have h2:K.filter (below p)=[]:=by
    rw [List.filter_eq_nil_iff]
    intro k hk hb
    obtain ⟨r,_,rfl⟩:=below_iff.1 hb
    exact out _ (within_trans hp (within_app _ _)) hk
   have h3:(below p ∘ (l++[nm]++·))=below (p.drop (l++[nm]).length):=by
    funext x
    show below p (l++[nm]++x)=_
    conv=>lhs;rw [← drop_within hp]
    exact below_app
   rw [h2,h3,h1]
   simp
  | false =>
   rw [ino _ hp] at h
   obtain ⟨clk0,ks0,h2,_⟩:=old p _ _ _ _ _ _ hp h
   have h1:=o.count _ _ _ _ _ _ _ h2
   have h3:(below p ∘ (l++[nm]++·))=fun _=>within p l:=by
    funext x
    exact below_graft hp
   rw [h3]
   cases hw2:within p l with
   | true =>
    rw [hw2,if_pos rfl] at h1
    have h4:(D.filter fun _=>true)=D:=List.filter_eq_self.2 fun _ _=>rfl
    rw [h4]
    omega
   | false =>
    rw [hw2,if_neg Bool.false_ne_true] at h1
    have h4:(D.filter fun _=>false)=[]:=List.filter_eq_nil_iff.2 fun _ _=>Bool.false_ne_true
    rw [h4]
    simp only [List.length_nil]
    omega
theorem filter_split {α:Type} (p q:α→Bool):∀ l:List α,(l.filter p).length=((l.filter q).filter p).length + ((l.filter fun x=>!q x).filter p).length:=by
 intro l
 induction l with
 | nil=>rfl
 | cons x l ih =>
  cases hq:q x <;> cases hp:p x <;> simp [List.filter_cons,hq,hp,ih] <;> omega
theorem sub_mem {σ:St} {K:List Pt} (o:OkD σ K) (d:Pt) (r:Pt):r ∈ (K.filter (within d)).map (fun k=>k.drop d.length) ↔ d++r ∈ K:=by
 rw [List.mem_map]
 constructor
 ·rintro ⟨k,hk,rfl⟩
  rw [List.mem_filter] at hk
  rw [drop_within hk.2]
  exact hk.1
 ·intro h
  exact ⟨d++r,List.mem_filter.2 ⟨h,within_app _ _⟩,List.drop_left⟩
theorem nodup_sub {K:List Pt} (hK:K.Nodup) (d:Pt):((K.filter (within d)).map (fun k=>k.drop d.length)).Nodup:=by
 induction K with
 | nil=>exact List.nodup_nil
 | cons k K ih =>
  rw [List.nodup_cons] at hK
  rw [List.filter_cons]
  split
  ·rename_i hw
   rw [List.map_cons,List.nodup_cons]
   refine ⟨fun hm=>?_,ih hK.2⟩
   obtain ⟨j,hj,e⟩:=List.mem_map.1 hm
   rw [List.mem_filter] at hj
   have:j=k:=by rw [← drop_within hj.2,← drop_within hw,e]
   exact hK.1 (this ▸ hj.1)
  ·exact ih hK.2
theorem OkD.sub {σ:St} {K:List Pt} (o:OkD σ K) (d:Pt):OkD (sub d σ) ((K.filter (within d)).map (fun k=>k.drop d.length)):=by
 refine ⟨fun p=>?_,nodup_sub o.nodup d,fun p x h=>?_,fun p b m clk q c ks h x=>?_,fun p b m clk q c ks h=>o.knod _ _ _ _ _ _ _ h,fun p b m clk q c ks h=>o.born _ _ _ _ _ _ _ h,fun p b m clk q c ks h=>?_⟩
 ·rw [sub_mem o];exact o.mem _
 ·refine o.up (d++p) x ?_
  unfold Go.Tr.sub at h
  rw [← List.append_assoc] at h
  exact h
 ·have:=o.kids _ _ _ _ _ _ _ h x
  unfold Go.Tr.sub
  rw [← List.append_assoc]
  exact this
 ·rw [o.count _ _ _ _ _ _ _ h,List.filter_map,List.length_map]
  congr 1
  rw [List.filter_filter]
  refine congrArg List.length (List.filter_congr fun k hk=>?_)
  cases hw:within d k with
  | true =>
   show below (d++p) k=(below p (k.drop d.length) && true)
   conv=>lhs;rw [← drop_within hw]
   rw [below_app,Bool.and_true]
  | false =>
   rw [Bool.and_false]
   cases hb:below (d++p) k with
   | false=>rfl
   | true =>
    obtain ⟨r,_,rfl⟩:=below_iff.1 hb
    rw [List.append_assoc,within_app] at hw;cases hw
theorem OkD.prune {σ:St} {K:List Pt} {l:Pt} {nm:Nm} {w:Int} (o:OkD σ K) (hw:w=((K.filter (within (l++[nm]))).length:Int)) :
  OkD (prune (l++[nm]) (delK l nm (addC l (-w) σ))) (K.filter fun p=>!within (l++[nm]) p):=by
 have inn:∀ p,within (l++[nm]) p=true→Go.Tr.prune (l++[nm]) (delK l nm (addC l (-w) σ)) p=none:=fun p hp=>by unfold Go.Tr.prune;rw [if_pos hp]
 have ino:∀ p,within (l++[nm]) p=false→Go.Tr.prune (l++[nm]) (delK l nm (addC l (-w) σ)) p=delK l nm (addC l (-w) σ) p:=fun p hp=>by unfold Go.Tr.prune;rw [if_neg (by rw [hp];exact Bool.false_ne_true)]
 have old:∀ p b m clk q c ks,Go.Tr.prune (l++[nm]) (delK l nm (addC l (-w) σ)) p=some (.dir b m clk q c ks) →
   within (l++[nm]) p=false∧∃ ks0,σ p=some (.dir b m clk q (c + (if within p l then w else 0)) ks0)∧((p ≠ l∧ks=ks0) ∨ (p=l∧ks=ks0.filter fun x=>!(x.1 == nm))):=by
  intro p b m clk q c ks h
  cases hp:within (l++[nm]) p with
  | true=>rw [inn p hp] at h;cases h
  | false =>
   rw [ino p hp] at h
   refine ⟨rfl,?_⟩
   have e:∀ c:Int,(c - (if within p l=true then -w else 0))=c + (if within p l=true then w else 0):=fun c=>by split <;> omega
   rcases delK_dir h with ⟨h1,h2⟩ | ⟨h1,ks0,h2,h4⟩
   ·have:=addC_dir h2
    rw [e] at this
    exact ⟨ks,this,.inl ⟨h1,rfl⟩⟩
   ·have:=addC_dir h2
    rw [e] at this
    exact ⟨ks0,this,.inr ⟨h1,h4⟩⟩
 refine ⟨fun p=>?_,o.nodup.filter _,fun p x h=>?_,fun p b m clk q c ks h x=>?_,fun p b m clk q c ks h=>?_,fun p b m clk q c ks h=>?_,fun p b m clk q c ks h=>?_⟩
 ·rw [List.mem_filter]
  cases hp:within (l++[nm]) p with
  | true=>rw [inn p hp];exact ⟨fun h=>(by cases h),fun h=>(by cases h.2)⟩
  | false=>rw [ino p hp,delK_some,addC_some,o.mem];exact ⟨fun h=>⟨h,rfl⟩,(·.1)⟩
 ·cases hp:within (l++[nm]) (p++[x]) with
  | true=>rw [inn _ hp] at h;cases h
  | false =>
   have hp2:within (l++[nm]) p=false:=by
    cases h2:within (l++[nm]) p with
    | false=>rfl
    | true=>rw [within_trans h2 (within_app _ _)] at hp;cases hp
   rw [ino _ hp,delK_some,addC_some] at h
   obtain ⟨b,m,clk,q,c,ks,hd⟩:=o.up p x h
   rw [ino _ hp2]
   unfold delK
   rw [addC_of hd]
   simp only
   split
   ·exact ⟨_,_,_,_,_,_,rfl⟩
   ·exact ⟨_,_,_,_,_,_,rfl⟩
 ·obtain ⟨hp,ks0,h2,h3⟩:=old _ _ _ _ _ _ _ h
  have hk:=o.kids _ _ _ _ _ _ _ h2 x
  rcases h3 with ⟨h3,rfl⟩ | ⟨h3,rfl⟩
  ·have h1:within (l++[nm]) (p++[x])=false:=by
    cases h1:within (l++[nm]) (p++[x]) with
    | false=>rfl
    | true=>exact absurd (not_within_child hp h1).1 h3
   rw [ino _ h1,delK_some,addC_some]
   exact hk
  ·subst h3
   have hm:x ∈ List.map (·.1) (ks0.filter fun x=>!(x.1 == nm)) ↔ x ∈ ks0.map (·.1)∧x ≠ nm:=by
    simp only [List.mem_map,List.mem_filter,Bool.not_eq_true',beq_eq_false_iff_ne,ne_eq]
    constructor
    ·rintro ⟨y,⟨h1,h2⟩,rfl⟩;exact ⟨⟨y,h1,rfl⟩,h2⟩
    ·rintro ⟨⟨y,h1,rfl⟩,h2⟩;exact ⟨y,⟨h1,h2⟩,rfl⟩
   rw [hm,hk]
   cases h1:within (p++[nm]) (p++[x]) with
   | true =>
    obtain ⟨_,rfl⟩:=not_within_child hp h1
    rw [inn _ h1]
    exact ⟨fun h=>absurd rfl h.2,fun h=>(by cases h)⟩
   | false =>
    rw [ino _ h1,delK_some,addC_some]
    refine ⟨(·.1),fun h=>⟨h,?_⟩⟩
    rintro rfl
    rw [within_refl] at h1;cases h1
 ·obtain ⟨hp,ks0,h2,h3⟩:=old _ _ _ _ _ _ _ h
  have hk:=o.knod _ _ _ _ _ _ _ h2
  rcases h3 with ⟨h3,rfl⟩ | ⟨h3,rfl⟩
  ·exact hk
  ·exact hk.sublist (List.filter_sublist.map _)
 ·obtain ⟨hp,ks0,h2,h3⟩:=old _ _ _ _ _ _ _ h
  obtain ⟨hk,hk2⟩:=o.born _ _ _ _ _ _ _ h2
  rcases h3 with ⟨h3,rfl⟩ | ⟨h3,rfl⟩
  ·exact ⟨hk,hk2⟩
  ·exact ⟨hk.sublist (List.filter_sublist.map _),fun x hx=>hk2 x (List.mem_filter.1 hx).1⟩
 ·obtain ⟨hp,ks0,h2,_⟩:=old _ _ _ _ _ _ _ h
  have h1:=o.count _ _ _ _ _ _ _ h2
  have hs:=filter_split (below p) (within (l++[nm])) K
  have hin:∀ k,within (l++[nm]) k=true→below p k=within p l:=by
   intro k hk
   obtain ⟨x,rfl⟩:=within_iff.1 hk
   exact below_graft hp
  cases hw2:within p l with
  | true =>
   rw [hw2,if_pos rfl] at h1
   have:(K.filter (within (l++[nm]))).filter (below p)=K.filter (within (l++[nm])) :=
    List.filter_eq_self.2 fun k hk=>by rw [hin k (List.mem_filter.1 hk).2,hw2]
   rw [this] at hs
   omega
  | false =>
   rw [hw2,if_neg Bool.false_ne_true] at h1
   have:(K.filter (within (l++[nm]))).filter (below p)=[] :=
    List.filter_eq_nil_iff.2 fun k hk=>by rw [hin k (List.mem_filter.1 hk).2,hw2];exact Bool.false_ne_true
   rw [this] at hs
   simp only [List.length_nil] at hs
   omega
theorem OkD.weight {σ:St} {K:List Pt} (o:OkD σ K) {d:Pt} {r:Row} (h:σ d=some r) :
  ((K.filter (within d)).length:Int)=1 + (match r with | .file _ _ _ _ _=>0 | .dir _ _ _ _ c _=>c):=by
 have hd:d ∈ K:=(o.mem d).1 (by rw [h];rfl)
 have h1:∀ L:List Pt,L.Nodup→(L.filter (within d)).length=(if d ∈ L then 1 else 0) + (L.filter (below d)).length:=by
  intro L hL
  induction L with
  | nil=>rfl
  | cons k L ih =>
   rw [List.nodup_cons] at hL
   have hi:=ih hL.2
   by_cases hk:k=d
   ·subst hk
    have e1:below k k=false:=by simp [below]
    rw [List.filter_cons,List.filter_cons,within_refl,e1]
    simp only [if_true,List.length_cons,List.mem_cons,true_or,Bool.false_eq_true,if_false,hi,if_neg hL.1]
    omega
   ·have e1:within d k=below d k:=by
     rw [Bool.eq_iff_iff,within_iff,below_iff]
     constructor
     ·rintro ⟨r,rfl⟩
      refine ⟨r,fun e=>hk (by rw [e,List.append_nil]),rfl⟩
     ·rintro ⟨r,_,rfl⟩;exact ⟨r,rfl⟩
    have e2:(d ∈ k::L) ↔ d ∈ L:=by
     rw [List.mem_cons]
     exact ⟨fun h=>h.elim (fun h=>absurd h.symm hk) id,.inr⟩
    rw [List.filter_cons,List.filter_cons,e1]
    simp only [e2]
    split
    ·simp only [List.length_cons,hi];omega
    ·exact hi
 have h2:=h1 K o.nodup
 rw [if_pos hd] at h2
 cases r with
 | dir b m clk q c ks =>
  have:=o.count _ _ _ _ _ _ _ h
  show _=1 + c
  omega
 | file b sl oo hd2 ps =>
  have:K.filter (below d)=[]:=by
   rw [List.filter_eq_nil_iff]
   intro k hk hb
   obtain ⟨x,hx,rfl⟩:=below_iff.1 hb
   obtain ⟨_,_,_,_,_,_,h3⟩:=o.ups x d hx ((o.mem _).2 hk)
   rw [h] at h3;cases h3
  rw [this] at h2
  show _=(1:Int) + 0
  simp only [List.length_nil] at h2
  omega
end Go.Tr
end
