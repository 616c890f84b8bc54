import Derived.Test.YtibigfkeaemanaaGreatDoorZ21
set_option linter.unusedVariables false
set_option linter.unusedSimpArgs false
section
namespace Go.Proofs.YtibigfkeaemanaaGreatDoor.L
open Go.Ab Go.Lang Go.Proofs.YtibigfkeaemanaaGreatDoor.X
set_option maxRecDepth 100000
def strL (l:List ByteArray):List Value:=l.map Value.string
def VR (v:Value) (x:V):Prop:=∃ s,Sl s (strL x.l)∧v=.agg #[.int .i64 x.n,.string x.t,s]
def encN (x:V):Value:=.agg #[.int .i64 x.n,.string x.t,.slice none 0 0]
theorem VR.of {x:V} (h:x.l=[]):VR (encN x) x:=⟨.slice none 0 0,by rw [h];exact .nil,rfl⟩
theorem below_encN (n:Nat) (x:V):Below n (encN x):=.agg fun v hv=>by
 simp at hv
 rcases hv with rfl | rfl | rfl
 ·exact .int _ _
 ·exact .string _
 ·exact .nilSlice 0 0
theorem Sl.sl1 {h:AH} {a:Value} {l:List Value} (ha:a.cells.size=1):sliceV Tryz.prog h 42 (VSl (a::l)) (some (.int .i64 1)) none=some (VSl l):=by
 have hu:(Tryz.prog).underlying 42=some (.slice 9):=by kernel_rfl
 have hi:∃ d,(Tryz.prog).info? 9=some d∧d.size=1:=⟨_,rfl,by kernel_rfl⟩
 obtain ⟨d,hd,hds⟩:=hi
 show opSlice Tryz.prog h 42 (VSl (a::l)) (some (.int .i64 1)) none=_
 unfold opSlice
 rw [hu]
 have hb:bounds? (a::l).toArray.size (a::l).toArray.size (some (.int .i64 1)) none=some (1,l.length + 1):=by
  unfold bounds? bound?
  have e1:(0:Int) ≤ 1∧(1:Int) ≤ ((a::l).toArray.size:Nat):=by simp;omega
  simp only [e1,if_true]
  simp
 simp only [VSl,hd,hb]
 have e1:((a::l).toArray[0]?).all (fun x=>decide (x.cells.size=d.size))=true:=by simp [ha,hds]
 rw [if_pos e1]
 simp [VSl]
theorem ia_str {l:List ByteArray} {i:Nat} {s:ByteArray} (h:l[i]?=some s):ia 1 (VSl (strL l)) (.int .i64 (i:Int))=some (FPv #[.string s]):=by
 rw [ia_vs,if_pos (by omega)]
 have:(strL l)[(i:Int).toNat]?=some (.string s):=by rw [Int.toNat_natCast,strL,List.getElem?_map,h];rfl
 rw [this]
 simp [Value.cells]
theorem fold_loop {f:Int→Int→Int} {ff:FuncId} (hb:hasBody Tryz.prog ff=true) (hf:∀ (h:AH) (a b:Int),NumOK a→NumOK b→Ex Tryz.prog ff [.int .i64 a,.int .i64 b].toArray h (.int .i64 (f a b)) h) {h:AH} {l:List ByteArray} (hl:∀ s ∈ l,s.size ≤ 4611686018427387904) (hlen:l.length ≤ 1099511627776) {Q:RQ} :
  ∀ (r:List ByteArray) (i:Nat) (n:Int) (h1:AH),l.drop i=r→i ≤ l.length→NumOK n→Kp h.size h h1→h.size < h1.size→(∃ c,h1.get h.size=some (.cells c 68 (0,0),none)∧c.size=3) →
  (∀ h2,Kp h.size h h2→Q (.ret (encN { n:=r.foldl (fun n x=>boundV (f n (parseV x))) n })) h2)→H38_5 (.func (.func ff) #[] #[]) (.pointer (some ⟨h.size,0,none⟩)) (.int .i64 n) (VSl (strL l)) (.int .i64 l.length) (.int .i64 i) h1 Q:=by
 intro r
 induction r with
 | nil =>
  intro i n h1 hd hi hn K hlt ⟨c,hg,hc⟩ hq
  have:=drop_nil hd
  refine X38_5_ok ?_
  unfold X38_5
  have e:¬ ((i:Int) < l.length):=by omega
  generalize hs3:stN 3=s3
  simp (disch:=first|exact dz|fail) only [e,SXB,SX,simprocAttr]
  subst hs3
  refine bq_of (stN_full hg hc rfl (fun z hz=>by simp [Value.cells] at hz;rcases hz with rfl | rfl | rfl <;> rfl)) ?_
  simp (disch:=first|exact dz|fail) only [SXB,SX,simprocAttr]
  refine hq _ ?_
  (repeat (first | exact Kp.refl _ _ | assumption | refine Kp.push ?_ _ _ (by first | omega | (simp only [sz_push,sz_put];omega)) | refine Kp.put ?_ _ _ (by first | omega | (simp only [sz_push,sz_put];omega))))
 | cons s r ih =>
  intro i n h1 hd hi hn K hlt hg hq
  obtain ⟨h1',h2',h3'⟩:=drop_cons hd
  refine X38_5_ok ?_
  unfold X38_5
  have e:(i:Int) < l.length:=by omega
  simp (disch:=first|exact dz|fail) only [e,ia_str h1',SXB,SX,simprocAttr]
  refine HC.exact (eparse_ok s (hl s (List.mem_of_getElem? h1'))) ?_
  have hp:NumOK (parseV s):=parse_num s
  refine HC.exact (hf _ n (parseV s) hn hp) ?_
  try simp (disch:=first|exact dz|fail) only [SXB,SX,simprocAttr]
  refine HC.exact (bound_ok _) ?_
  exact ih (i + 1) _ h1 h2' (by omega) (num_bound _) K hlt hg hq
theorem fold_ok {f:Int→Int→Int} {ff:FuncId} (hb:hasBody Tryz.prog ff=true) (hf:∀ (h:AH) (a b:Int),NumOK a→NumOK b→Ex Tryz.prog ff [.int .i64 a,.int .i64 b].toArray h (.int .i64 (f a b)) h) {h:AH} {s:Value} {l:List ByteArray} (hs:Sl s (strL l)) (hl:∀ s ∈ l,s.size ≤ 4611686018427387904) (hlen:l.length ≤ 1099511627776) :
  Ex Tryz.prog 38 [s,.func (.func ff) #[] #[]].toArray h (encN (foldV f l)) h:=by
 refine Ex.pureF (below_encN _ _) (X38_ok ?_)
 unfold X38
 cases l with
 | nil =>
  have e1:=hs.len
  have e0:((([]:List Value).length:Nat):Int) == 0:=rfl
  simp (disch:=first|exact dz|fail) only [e1,strL,e0,SXB,SX,simprocAttr]
  refine ⟨rfl,?_⟩
  (repeat (first | exact Kp.refl _ _ | assumption | refine Kp.push ?_ _ _ (by first | omega | (simp only [sz_push,sz_put];omega)) | refine Kp.put ?_ _ _ (by first | omega | (simp only [sz_push,sz_put];omega))))
 | cons a l =>
  have hs':s=VSl (strL (a::l)):=by cases hs;rfl
  subst hs'
  have e0:((((l.length + 1:Nat):Int)) == 0)=false:=by simp;omega
  have e1:ia 1 (VSl (strL (a::l))) (.int .i64 0)=some (FPv #[.string a]):=ia_str (i:=0) rfl
  have e2:lenL (VSl (strL (a::l)))=some (.int .i64 ((l.length + 1:Nat):Int)):=by rw [lenL_vs];simp [strL]
  have e3:lenL (VSl (strL l))=some (.int .i64 (l.length:Nat)):=by rw [lenL_vs];simp [strL]
  have e4:sliceV Tryz.prog (h.push (.cells #[.int .i64 0,.string ⟨#[]⟩,.slice none 0 0] 68 (0,0)) none) 42 (VSl (strL (a::l))) (some (.int .i64 1)) none=some (VSl (strL l)):=Sl.sl1 (a:=.string a) rfl
  simp (disch:=first|exact dz|fail) only [e0,e1,e2,SXB,SX,simprocAttr]
  refine HC.exact (eparse_ok a (hl a (by simp))) ?_
  simp (disch:=first|exact dz|fail) only [e3,e4,SXB,SX,simprocAttr]
  refine fold_loop hb hf (fun x hx=>hl x (List.mem_cons_of_mem _ hx)) (by simp at hlen;omega) l 0 _ _ rfl (by omega) (parse_num a) ?_ ?_ ⟨_,get_push_eq rfl,rfl⟩ fun h2 K=>⟨rfl,K⟩
  ·(repeat (first | exact Kp.refl _ _ | assumption | refine Kp.push ?_ _ _ (by first | omega | (simp only [sz_push,sz_put];omega)) | refine Kp.put ?_ _ _ (by first | omega | (simp only [sz_push,sz_put];omega))))
  ·simp (disch:=first|exact dz|fail) only [SXB,SX,simprocAttr]
   omega
theorem ends_ok {h:AH} {s:Value} {l:List ByteArray} (hs:Sl s (strL l)) (hlen:l.length ≤ 1099511627776) (b:Bool) :
  Ex Tryz.prog 42 [s,.bool b].toArray h (encN (if b then (match l.getLast? with | some s=>{ t:=cellV s } | none=>{}) else (match l.head? with | some s=>{ t:=cellV s } | none=>{}))) h:=by
 refine Ex.pureF (below_encN _ _) (X42_ok ?_)
 unfold X42
 cases l with
 | nil =>
  have e1:=hs.len
  have e0:((([]:List Value).length:Nat):Int) == 0:=rfl
  simp (disch:=first|exact dz|fail) only [e1,strL,e0,SXB,SX,simprocAttr]
  refine ⟨by cases b <;> rfl,?_⟩
  (repeat (first | exact Kp.refl _ _ | assumption | refine Kp.push ?_ _ _ (by first | omega | (simp only [sz_push,sz_put];omega)) | refine Kp.put ?_ _ _ (by first | omega | (simp only [sz_push,sz_put];omega))))
 | cons a l =>
  have hs':s=VSl (strL (a::l)):=by cases hs;rfl
  subst hs'
  have e0:((((l.length + 1:Nat):Int)) == 0)=false:=by simp;omega
  have e2:lenL (VSl (strL (a::l)))=some (.int .i64 ((l.length + 1:Nat):Int)):=by rw [lenL_vs];simp [strL]
  cases b with
  | false =>
   have e1:ia 1 (VSl (strL (a::l))) (.int .i64 0)=some (FPv #[.string a]):=ia_str (i:=0) rfl
   simp (disch:=first|exact dz|fail) only [e0,e1,e2,SXB,SX,simprocAttr]
   refine HC.exact (cell_ok a) ?_
   simp (disch:=first|exact dz|fail) only [SXB,SX,simprocAttr]
   refine ⟨rfl,?_⟩
   (repeat (first | exact Kp.refl _ _ | assumption | refine Kp.push ?_ _ _ (by first | omega | (simp only [sz_push,sz_put];omega)) | refine Kp.put ?_ _ _ (by first | omega | (simp only [sz_push,sz_put];omega))))
  | true =>
   obtain ⟨z,hz⟩:∃ z,(a::l)[l.length]?=some z:=⟨_,List.getElem?_eq_getElem (by simp)⟩
   have hz2:(a::l).getLast?=some z:=by rw [List.getLast?_eq_getElem?];simpa using hz
   have e1:ia 1 (VSl (strL (a::l))) (.int .i64 ((l.length:Nat):Int))=some (FPv #[.string z]):=ia_str hz
   have e3:IntKind.i64.wrap ((((l.length + 1:Nat):Int)) - 1)=(l.length:Nat):=by
    simp at hlen
    exact (wrap64 (by omega) (by omega)).trans (by omega)
   rw [hz2]
   simp (disch:=first|exact dz|fail) only [e0,e1,e2,e3,SXB,SX,simprocAttr]
   refine HC.exact (cell_ok z) ?_
   simp (disch:=first|exact dz|fail) only [SXB,SX,simprocAttr]
   refine ⟨rfl,?_⟩
   (repeat (first | exact Kp.refl _ _ | assumption | refine Kp.push ?_ _ _ (by first | omega | (simp only [sz_push,sz_put];omega)) | refine Kp.put ?_ _ _ (by first | omega | (simp only [sz_push,sz_put];omega))))
end Go.Proofs.YtibigfkeaemanaaGreatDoor.L
end
