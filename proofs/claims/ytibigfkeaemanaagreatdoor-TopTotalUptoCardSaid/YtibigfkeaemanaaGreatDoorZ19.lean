import Derived.KernelRfl
import Derived.Test.YtibigfkeaemanaaGreatDoorProg
import Derived.Test.YtibigfkeaemanaaGreatDoorZ14
import Derived.Test.YtibigfkeaemanaaGreatDoorZ15
import Derived.Test.YtibigfkeaemanaaGreatDoorZ16
import Derived.Test.YtibigfkeaemanaaGreatDoorZ17
import Derived.Test.YtibigfkeaemanaaGreatDoorZ18
set_option linter.unusedVariables false
set_option linter.unusedSimpArgs false
section
namespace Go.Ab
theorem one_slV (l:List Value):(slV l).oneCell' = true:=by cases l <;> rfl
theorem cells_slV (l:List Value):(slV l).cells = #[slV l]:=by cases l <;> rfl
theorem SX:((((((((type_of% @bq_some)∧(type_of% @oq_some))∧((type_of% @get_push_e)∧((type_of% @get_push_ne)∧(type_of% @get_put_e))))∧(((type_of% @get_put_ne)∧(type_of% @sz_push))∧((type_of% @sz_put)∧((type_of% @rowC_cells)∧(type_of% @setC_cells)))))∧((((type_of% @ld1_ptr)∧(type_of% @ld1_fp))∧((type_of% @ldN_ptr)∧((type_of% @ldN_fp)∧(type_of% @stN_ptr))))∧(((type_of% @fa_ptr)∧((type_of% @fa_fp)∧(type_of% @fd1_agg)))∧((type_of% @fdN_agg)∧((type_of% @ia_vs)∧(type_of% @ia_sl))))))∧(((((type_of% @iaA_ptr)∧(type_of% @iaA_fp))∧((type_of% @lenL_vs)∧((type_of% @lenL_sl)∧(type_of% @lenL_slV))))∧(((type_of% @lenS_s)∧((type_of% @lenM_nil)∧(type_of% @lenM_map)))∧((type_of% @lenE_map)∧((type_of% @rngE_map)∧(type_of% @opExtract_tuple)))))∧((((type_of% @nilV_ptr)∧(type_of% @nilV_iface))∧((type_of% @nilV_func)∧((type_of% @nilV_fp)∧(type_of% @pickV_bool))))∧(((type_of% @wrap64)∧((type_of% @cells_agg)∧(type_of% @cells_int)))∧((type_of% @cells_bool)∧((type_of% @cells_string)∧(type_of% @cells_pointer)))))))∧((((((type_of% @cells_slice)∧(type_of% @cells_map))∧((type_of% @cells_iface)∧((type_of% @cells_nilIface)∧(type_of% @cells_func))))∧(((type_of% @cells_float)∧(type_of% @cells_complex))∧((type_of% @cells_vs)∧((type_of% @cells_fp)∧(type_of% @one_int)))))∧((((type_of% @one_bool)∧(type_of% @one_string))∧((type_of% @one_pointer)∧((type_of% @one_slice)∧(type_of% @one_map))))∧(((type_of% @one_iface)∧((type_of% @one_nilIface)∧(type_of% @one_func)))∧((type_of% @one_float)∧((type_of% @one_complex)∧(type_of% @one_vs))))))∧(((((type_of% @one_fp)∧(type_of% @setFrom_nil))∧((type_of% @setFrom_cons)∧((type_of% @bd_eq)∧(type_of% @bdF_nil))))∧(((type_of% @bdF_cons)∧((type_of% @bs_eq)∧(type_of% @new1)))∧((type_of% @new2)∧((type_of% @mm1)∧(type_of% @mm2)))))∧((((type_of% @callX_func)∧(type_of% @callP_func))∧((type_of% @condP_true)∧((type_of% @condP_false)∧(type_of% @guardQ_true))))∧(((type_of% @guardQ_false)∧((type_of% @guardQ_true')∧(type_of% @guardQ_false')))∧((type_of% @plain_int)∧((type_of% @plain_bool)∧(type_of% @plain_string))))))))∧(((((((type_of% @plain_float)∧(type_of% @plain_complex))∧((type_of% @Option.bind_some.{0,0})∧((type_of% @Option.bind_none.{0,0})∧(type_of% @Option.map_some.{0,0}))))∧(((type_of% @Option.map_none.{0,0})∧(type_of% @List.getElem?_toArray.{0}))∧((type_of% @List.getElem?_cons_zero.{0})∧((type_of% @List.getElem?_cons_succ.{0})∧(type_of% @List.size_toArray.{0})))))∧((((type_of% @List.length_cons.{0})∧(type_of% @List.length_nil.{0}))∧((type_of% @List.extract_toArray.{0})∧((type_of% @List.extract_eq_take_drop.{0})∧(type_of% @List.drop_zero.{0}))))∧(((type_of% @List.drop_succ_cons.{0})∧((type_of% @List.take_succ_cons.{0})∧(type_of% @List.take_zero.{0})))∧((type_of% @List.take_nil.{0})∧((type_of% @List.drop_nil.{0})∧(type_of% @List.setIfInBounds_toArray.{0}))))))∧(((((type_of% @List.set_cons_zero.{0})∧(type_of% @List.set_cons_succ.{0}))∧((type_of% @List.toList_toArray.{0})∧((type_of% @List.all_cons.{0})∧(type_of% @List.all_nil.{0}))))∧(((type_of% @Bool.and_true)∧((type_of% @Bool.true_and)∧(type_of% @Bool.and_self)))∧((type_of% @Bool.false_and)∧((type_of% @Bool.and_false)∧(type_of% @Bool.or_false)))))∧((((type_of% @Bool.false_or)∧(type_of% @Bool.or_true))∧((type_of% @Bool.true_or)∧((type_of% @Bool.not_true)∧(type_of% @Bool.not_false))))∧(((type_of% @if_true.{1})∧((type_of% @if_false.{1})∧(type_of% @and_true)))∧((type_of% @true_and)∧((type_of% @false_and)∧(type_of% @and_false)))))))∧((((((type_of% @eq_self.{1})∧(type_of% @ne_eq.{1}))∧((type_of% @not_true_eq_false)∧((type_of% @not_false_eq_true)∧(type_of% @decide_true))))∧(((type_of% @decide_false)∧((type_of% @Bool.false_eq_true)∧(type_of% @Bool.true_eq_false)))∧((type_of% @Nat.zero_add)∧((type_of% @Nat.add_zero)∧(type_of% @Nat.mul_one)))))∧((((type_of% @Nat.one_mul)∧(type_of% @Nat.zero_mul))∧((type_of% @Int.toNat_natCast)∧((type_of% @List.nil_append.{0})∧(type_of% @List.append_nil.{0}))))∧(((type_of% @List.cons_append.{0})∧((type_of% @Array.toList_empty.{0})∧(type_of% @List.getElem?_map.{0,0})))∧((type_of% @ge_iff_le.{0})∧((type_of% @gt_iff_lt.{0})∧(type_of% @decide_eq_true_eq))))))∧(((((type_of% @bne_self_eq_false.{0})∧(type_of% @beq_self_eq_true.{0}))∧((type_of% @Int.natCast_nonneg)∧((type_of% @Nat.lt_irrefl)∧(type_of% @Nat.le_refl))))∧(((type_of% @seqO_nil)∧((type_of% @seqO_cons)∧(type_of% @oneOf_one)))∧((type_of% @oneOf_two)∧((type_of% @deferV_func)∧(type_of% @dAllP_nil)))))∧((((type_of% @dAllP_cons)∧(type_of% @settle_ret))∧((type_of% @settle_pan)∧((type_of% @settle_recd)∧(type_of% @leftV_ret))))∧(((type_of% @leftV_pan)∧((type_of% @resK_ret)∧(type_of% @resK_pan)))∧((type_of% @guardQ_undef)∧((type_of% @one_slV)∧(type_of% @cells_slV))))))))):=⟨⟨⟨⟨⟨⟨⟨@bq_some,@oq_some⟩,⟨@get_push_e,⟨@get_push_ne,@get_put_e⟩⟩⟩,⟨⟨@get_put_ne,@sz_push⟩,⟨@sz_put,⟨@rowC_cells,@setC_cells⟩⟩⟩⟩,⟨⟨⟨@ld1_ptr,@ld1_fp⟩,⟨@ldN_ptr,⟨@ldN_fp,@stN_ptr⟩⟩⟩,⟨⟨@fa_ptr,⟨@fa_fp,@fd1_agg⟩⟩,⟨@fdN_agg,⟨@ia_vs,@ia_sl⟩⟩⟩⟩⟩,⟨⟨⟨⟨@iaA_ptr,@iaA_fp⟩,⟨@lenL_vs,⟨@lenL_sl,@lenL_slV⟩⟩⟩,⟨⟨@lenS_s,⟨@lenM_nil,@lenM_map⟩⟩,⟨@lenE_map,⟨@rngE_map,@opExtract_tuple⟩⟩⟩⟩,⟨⟨⟨@nilV_ptr,@nilV_iface⟩,⟨@nilV_func,⟨@nilV_fp,@pickV_bool⟩⟩⟩,⟨⟨@wrap64,⟨@cells_agg,@cells_int⟩⟩,⟨@cells_bool,⟨@cells_string,@cells_pointer⟩⟩⟩⟩⟩⟩,⟨⟨⟨⟨⟨@cells_slice,@cells_map⟩,⟨@cells_iface,⟨@cells_nilIface,@cells_func⟩⟩⟩,⟨⟨@cells_float,@cells_complex⟩,⟨@cells_vs,⟨@cells_fp,@one_int⟩⟩⟩⟩,⟨⟨⟨@one_bool,@one_string⟩,⟨@one_pointer,⟨@one_slice,@one_map⟩⟩⟩,⟨⟨@one_iface,⟨@one_nilIface,@one_func⟩⟩,⟨@one_float,⟨@one_complex,@one_vs⟩⟩⟩⟩⟩,⟨⟨⟨⟨@one_fp,@setFrom_nil⟩,⟨@setFrom_cons,⟨@bd_eq,@bdF_nil⟩⟩⟩,⟨⟨@bdF_cons,⟨@bs_eq,@new1⟩⟩,⟨@new2,⟨@mm1,@mm2⟩⟩⟩⟩,⟨⟨⟨@callX_func,@callP_func⟩,⟨@condP_true,⟨@condP_false,@guardQ_true⟩⟩⟩,⟨⟨@guardQ_false,⟨@guardQ_true',@guardQ_false'⟩⟩,⟨@plain_int,⟨@plain_bool,@plain_string⟩⟩⟩⟩⟩⟩⟩,⟨⟨⟨⟨⟨⟨@plain_float,@plain_complex⟩,⟨@Option.bind_some.{0,0},⟨@Option.bind_none.{0,0},@Option.map_some.{0,0}⟩⟩⟩,⟨⟨@Option.map_none.{0,0},@List.getElem?_toArray.{0}⟩,⟨@List.getElem?_cons_zero.{0},⟨@List.getElem?_cons_succ.{0},@List.size_toArray.{0}⟩⟩⟩⟩,⟨⟨⟨@List.length_cons.{0},@List.length_nil.{0}⟩,⟨@List.extract_toArray.{0},⟨@List.extract_eq_take_drop.{0},@List.drop_zero.{0}⟩⟩⟩,⟨⟨@List.drop_succ_cons.{0},⟨@List.take_succ_cons.{0},@List.take_zero.{0}⟩⟩,⟨@List.take_nil.{0},⟨@List.drop_nil.{0},@List.setIfInBounds_toArray.{0}⟩⟩⟩⟩⟩,⟨⟨⟨⟨@List.set_cons_zero.{0},@List.set_cons_succ.{0}⟩,⟨@List.toList_toArray.{0},⟨@List.all_cons.{0},@List.all_nil.{0}⟩⟩⟩,⟨⟨@Bool.and_true,⟨@Bool.true_and,@Bool.and_self⟩⟩,⟨@Bool.false_and,⟨@Bool.and_false,@Bool.or_false⟩⟩⟩⟩,⟨⟨⟨@Bool.false_or,@Bool.or_true⟩,⟨@Bool.true_or,⟨@Bool.not_true,@Bool.not_false⟩⟩⟩,⟨⟨@if_true.{1},⟨@if_false.{1},@and_true⟩⟩,⟨@true_and,⟨@false_and,@and_false⟩⟩⟩⟩⟩⟩,⟨⟨⟨⟨⟨@eq_self.{1},@ne_eq.{1}⟩,⟨@not_true_eq_false,⟨@not_false_eq_true,@decide_true⟩⟩⟩,⟨⟨@decide_false,⟨@Bool.false_eq_true,@Bool.true_eq_false⟩⟩,⟨@Nat.zero_add,⟨@Nat.add_zero,@Nat.mul_one⟩⟩⟩⟩,⟨⟨⟨@Nat.one_mul,@Nat.zero_mul⟩,⟨@Int.toNat_natCast,⟨@List.nil_append.{0},@List.append_nil.{0}⟩⟩⟩,⟨⟨@List.cons_append.{0},⟨@Array.toList_empty.{0},@List.getElem?_map.{0,0}⟩⟩,⟨@ge_iff_le.{0},⟨@gt_iff_lt.{0},@decide_eq_true_eq⟩⟩⟩⟩⟩,⟨⟨⟨⟨@bne_self_eq_false.{0},@beq_self_eq_true.{0}⟩,⟨@Int.natCast_nonneg,⟨@Nat.lt_irrefl,@Nat.le_refl⟩⟩⟩,⟨⟨@seqO_nil,⟨@seqO_cons,@oneOf_one⟩⟩,⟨@oneOf_two,⟨@deferV_func,@dAllP_nil⟩⟩⟩⟩,⟨⟨⟨@dAllP_cons,@settle_ret⟩,⟨@settle_pan,⟨@settle_recd,@leftV_ret⟩⟩⟩,⟨⟨@leftV_pan,⟨@resK_ret,@resK_pan⟩⟩,⟨@guardQ_undef,⟨@one_slV,@cells_slV⟩⟩⟩⟩⟩⟩⟩⟩
theorem SC:((((((type_of% @one_slV)∧(type_of% @cells_slV))∧((type_of% @cells_agg)∧(type_of% @cells_int)))∧(((type_of% @cells_bool)∧(type_of% @cells_string))∧((type_of% @cells_pointer)∧((type_of% @cells_slice)∧(type_of% @cells_map)))))∧((((type_of% @cells_iface)∧(type_of% @cells_nilIface))∧((type_of% @cells_func)∧((type_of% @cells_float)∧(type_of% @cells_complex))))∧(((type_of% @cells_vs)∧(type_of% @cells_fp))∧((type_of% @one_int)∧((type_of% @one_bool)∧(type_of% @one_string))))))∧(((((type_of% @one_pointer)∧(type_of% @one_slice))∧((type_of% @one_map)∧((type_of% @one_iface)∧(type_of% @one_nilIface))))∧(((type_of% @one_func)∧(type_of% @one_float))∧((type_of% @one_complex)∧((type_of% @one_vs)∧(type_of% @one_fp)))))∧((((type_of% @List.size_toArray.{0})∧(type_of% @List.length_cons.{0}))∧((type_of% @List.length_nil.{0})∧((type_of% @List.all_cons.{0})∧(type_of% @List.all_nil.{0}))))∧(((type_of% @Bool.and_true)∧(type_of% @Bool.true_and))∧((type_of% @Bool.and_self)∧((type_of% @Nat.zero_add)∧(type_of% @Nat.add_zero))))))):=⟨⟨⟨⟨⟨@one_slV,@cells_slV⟩,⟨@cells_agg,@cells_int⟩⟩,⟨⟨@cells_bool,@cells_string⟩,⟨@cells_pointer,⟨@cells_slice,@cells_map⟩⟩⟩⟩,⟨⟨⟨@cells_iface,@cells_nilIface⟩,⟨@cells_func,⟨@cells_float,@cells_complex⟩⟩⟩,⟨⟨@cells_vs,@cells_fp⟩,⟨@one_int,⟨@one_bool,@one_string⟩⟩⟩⟩⟩,⟨⟨⟨⟨@one_pointer,@one_slice⟩,⟨@one_map,⟨@one_iface,@one_nilIface⟩⟩⟩,⟨⟨@one_func,@one_float⟩,⟨@one_complex,⟨@one_vs,@one_fp⟩⟩⟩⟩,⟨⟨⟨@List.size_toArray.{0},@List.length_cons.{0}⟩,⟨@List.length_nil.{0},⟨@List.all_cons.{0},@List.all_nil.{0}⟩⟩⟩,⟨⟨@Bool.and_true,@Bool.true_and⟩,⟨@Bool.and_self,⟨@Nat.zero_add,@Nat.add_zero⟩⟩⟩⟩⟩⟩
theorem dz {p:Prop} (h:p:=by first | omega | (simp only [beq_iff_eq,sz_push,sz_put,SC,Nat.reduceAdd,Nat.reduceLeDiff];done) | (simp only [beq_iff_eq,ne_eq,sz_push,sz_put];omega) | assumption | fail):p:=h
theorem RK:(type_of% @resK_ret)∧(type_of% @resK_pan)∧(type_of% @bq_some)∧(type_of% @fa_ptr)∧(type_of% @Nat.zero_add)∧(type_of% @List.nil_append.{0})∧(type_of% @List.append_nil.{0}):=⟨@resK_ret,@resK_pan,@bq_some,@fa_ptr,@Nat.zero_add,@List.nil_append.{0},@List.append_nil.{0}⟩
end Go.Ab
end
section
namespace Go.Lang
open Go.Ab
def encT (t:Tok):Value:=.agg #[.int .i64 t.cls,.int .i64 t.at_,.string t.text]
def encV (v:Var):Value:=.agg #[.string v.1,.int .u8 v.2]
mutual
def encE:Expr→Value
 | .mk op a n t args=>.agg #[.string op,.int .i64 a,.int .i64 n,.string t,slV (encEs args)]
def encEs:List Expr→List Value
 | []=>[]
 | e::l=>encE e::encEs l
end
theorem encEs_eq:∀ l,encEs l=l.map encE
 | []=>rfl
 | e::l=>by rw [encEs,List.map_cons,encEs_eq l]
def celE:Expr→List Value
 | .mk op a n t args=>[.string op,.int .i64 a,.int .i64 n,.string t,slV (encEs args)]
theorem encE_eq (e:Expr):encE e=.agg (celE e).toArray:=by cases e;rw [encE];rfl
theorem celE_len (e:Expr):(celE e).length=5:=by cases e;rfl
mutual
def encS:Stmt→Value
 | .mk op x a b body els=>.agg (([.string op,.string x]:List Value)++celE a++celE b++[slV (encSs body),slV (encSs els)]).toArray
def encSs:List Stmt→List Value
 | []=>[]
 | e::l=>encS e::encSs l
end
theorem encSs_eq:∀ l,encSs l=l.map encS
 | []=>rfl
 | e::l=>by rw [encSs,List.map_cons,encSs_eq l]
def celS:Stmt→List Value
 | .mk op x a b body els=>([.string op,.string x]:List Value)++celE a++celE b++[slV (encSs body),slV (encSs els)]
theorem encS_eq (e:Stmt):encS e=.agg (celS e).toArray:=by cases e;rw [encS];rfl
theorem celS_len (e:Stmt):(celS e).length=14:=by cases e;simp [celS,celE_len]
def celP (p:Prog):List Value:=[slV (encSs p.map),slV (encSs p.combine),slV (encSs p.reduce),.bool p.combines,.bool p.parts]++celE p.part
theorem celP_len (p:Prog):(celP p).length=10:=by simp [celP,celE_len]
theorem celE_one (e:Expr):∀ v ∈ celE e,v.oneCell' = true:=by
 cases e
 intro v hv
 simp only [celE,List.mem_cons,List.not_mem_nil,or_false] at hv
 rcases hv with rfl | rfl | rfl | rfl | rfl
 ·rfl
 ·rfl
 ·rfl
 ·rfl
 ·exact one_slV _
theorem celS_one (s:Stmt):∀ v ∈ celS s,v.oneCell' = true:=by
 cases s
 intro v hv
 simp only [celS,List.mem_append,List.mem_cons,List.not_mem_nil,or_false] at hv
 rcases hv with (((rfl | rfl) | h) | h) | rfl | rfl
 ·rfl
 ·rfl
 ·exact celE_one _ v h
 ·exact celE_one _ v h
 ·exact one_slV _
 ·exact one_slV _
theorem encE_cells (e:Expr):(encE e).cells=(celE e).toArray:=by rw [encE_eq];rfl
theorem encS_cells (s:Stmt):(encS s).cells=(celS s).toArray:=by rw [encS_eq];rfl
theorem encEs_size (l:List Expr):∀ v ∈ encEs l,v.cells.size=5:=by
 rw [encEs_eq]
 intro v hv
 obtain ⟨e,_,rfl⟩:=List.mem_map.1 hv
 rw [encE_cells];simp [celE_len]
theorem encSs_size (l:List Stmt):∀ v ∈ encSs l,v.cells.size=14:=by
 rw [encSs_eq]
 intro v hv
 obtain ⟨e,_,rfl⟩:=List.mem_map.1 hv
 rw [encS_cells];simp [celS_len]
theorem encTs_size (l:List Tok):∀ v ∈ l.map encT,v.cells.size=3:=fun v hv=>by
 obtain ⟨t,_,rfl⟩:=List.mem_map.1 hv
 rfl
theorem encVs_size (l:List Var):∀ v ∈ l.map encV,v.cells.size=2:=fun v hv=>by
 obtain ⟨t,_,rfl⟩:=List.mem_map.1 hv
 rfl
theorem encVs_one (l:List Var):∀ v ∈ flatC (l.map encV),v.oneCell' = true:=fun v hv=>by
 unfold flatC at hv
 obtain ⟨w,hw,hv⟩:=List.mem_flatMap.1 hv
 obtain ⟨t,_,rfl⟩:=List.mem_map.1 hw
 simp [encV,Value.cells] at hv
 rcases hv with rfl | rfl <;> rfl
end Go.Lang
end
section
namespace Go.Proofs.YtibigfkeaemanaaGreatDoor.L
open Go.Ab Go.Lang Go.Proofs.YtibigfkeaemanaaGreatDoor.X
set_option maxRecDepth 100000
theorem max_ite {a b:Int}:(if a < b then b else a)=max a b:=by omega
theorem min_ite {a b:Int}:(if b < a then b else a)=min a b:=by omega
theorem bound_ok {h:AH} (n:Int):Ex Tryz.prog 22 [.int .i64 n].toArray h (.int .i64 (boundV n)) h:=by
 refine X22_ok ?_
 unfold X22
 simp (disch:=first|exact dz|fail) only [max_ite,min_ite,SXB,SX,simprocAttr]
 unfold boundV maxNum
 rfl
theorem flat_bd {P:Program} {n y:Nat} {c:BoundsCode} (h:n ≤ y):flat P (Instr.sliceBound (.int .i64 (n:Int)) y c)=some n:=by
 unfold Instr.sliceBound
 rw [flat_bind]
 show (flat P (pure (IntKind.i64,(n:Int)):Sem (IntKind × Int))).bind _=_
 rw [flat_pure,Option.bind_some]
 show flat P (if 0 ≤ (n:Int)∧(n:Int) ≤ y then _ else _)=_
 rw [if_pos ⟨by omega,by omega⟩]
 rfl
theorem sub_gen {P:Program} {t:TypeId} {h:AH} {s:ByteArray} {l g:Option Value} {i k:Nat} (hu:P.underlying t=some .string) (hp:(l.all plain && g.all plain)=true) (e2:flat P (Instr.sliceBounds false s.size s.size l g none)=some (i,k,s.size)):sliceV P h t (.string s) l g=some (.string (s.extract i k)):=by
 have e:flat P (Instr.sliceAt t (.string s) l g none)=some (.string (s.extract i k)):=by
  unfold Instr.sliceAt
  rw [flat_bind,flat_und hu,Option.bind_some]
  show flat P (Instr.slice t (.string s) l g none)=_
  unfold Instr.slice
  rw [flat_bind,flat_und hu,Option.bind_some]
  show flat P (Instr.sliceBounds false s.size s.size l g none >>= _)=_
  rw [flat_bind,e2,Option.bind_some]
  rfl
 show (if l.all plain && g.all plain then flatV P (Instr.sliceAt t (.string s) l g none) else none)=_
 rw [hp,if_pos rfl]
 unfold flatV
 rw [e]
 rfl
theorem sub_hi {h:AH} {s:ByteArray} {k:Nat} (hi:k ≤ s.size):sliceV Tryz.prog h 9 (.string s) none (some (.int .i64 (k:Int)))=some (.string (s.extract 0 k)):=by
 refine sub_gen (by kernel_rfl) rfl ?_
 unfold Instr.sliceBounds
 rw [flat_bind,flat_pure,Option.bind_some]
 show flat _ (Instr.sliceBound (.int .i64 k) s.size _ >>= _)=_
 rw [flat_bind,flat_bd hi,Option.bind_some]
 rfl
theorem sub_lo {h:AH} {s:ByteArray} {i:Nat} (hi:i ≤ s.size):sliceV Tryz.prog h 9 (.string s) (some (.int .i64 (i:Int))) none=some (.string (s.extract i s.size)):=by
 refine sub_gen (by kernel_rfl) rfl ?_
 unfold Instr.sliceBounds
 rw [flat_bind,flat_pure,Option.bind_some]
 show flat _ (pure s.size >>= _)=_
 rw [flat_bind,flat_pure,Option.bind_some]
 show flat _ (Instr.sliceBound (.int .i64 i) s.size _ >>= _)=_
 rw [flat_bind,flat_bd hi,Option.bind_some]
 rfl
theorem sub_mid {h:AH} {s:ByteArray} {i k:Nat} (h1:i ≤ k) (h2:k ≤ s.size):sliceV Tryz.prog h 9 (.string s) (some (.int .i64 (i:Int))) (some (.int .i64 (k:Int)))=some (.string (s.extract i k)):=by
 refine sub_gen (by kernel_rfl) rfl ?_
 unfold Instr.sliceBounds
 rw [flat_bind,flat_pure,Option.bind_some]
 show flat _ (Instr.sliceBound (.int .i64 k) s.size _ >>= _)=_
 rw [flat_bind,flat_bd h2,Option.bind_some]
 show flat _ (Instr.sliceBound (.int .i64 i) k _ >>= _)=_
 rw [flat_bind,flat_bd h1,Option.bind_some]
 rfl
theorem cell_ok {h:AH} (s:ByteArray):Ex Tryz.prog 52 [.string s].toArray h (.string (cellV s)) h:=by
 refine X52_ok ?_
 unfold X52
 have e:min ((s.size:Nat):Int) 4096=((min s.size 4096:Nat):Int):=by omega
 simp (disch:=first|exact dz|fail) only [max_ite,min_ite,e,sub_hi,SXB,SX,simprocAttr]
 rfl
theorem bit_ok {h:AH} (b:Bool):Ex Tryz.prog 37 [.bool b].toArray h (.int .i64 (bitV b)) h:=by
 refine X37_ok ?_
 unfold X37
 cases b with
 | false =>
  simp (disch:=first|exact dz|fail) only [SXB,SX,simprocAttr]
  rfl
 | true =>
  simp (disch:=first|exact dz|fail) only [SXB,SX,simprocAttr]
  rfl
def NumOK (n:Int):Prop:=-1099511627776 ≤ n∧n ≤ 1099511627776
theorem num_bound (n:Int):NumOK (boundV n):=by unfold NumOK boundV maxNum;omega
theorem plus_ok {h:AH} {a b:Int} (ha:NumOK a) (hb:NumOK b):Ex Tryz.prog 39 [.int .i64 a,.int .i64 b].toArray h (.int .i64 (a + b)) h:=by
 refine X39_ok ?_
 unfold X39
 unfold NumOK at ha hb
 simp (disch:=first|exact dz|fail) only [SXB,SX,simprocAttr]
theorem greatest_ok {h:AH} {a b:Int}:Ex Tryz.prog 40 [.int .i64 a,.int .i64 b].toArray h (.int .i64 (max a b)) h:=by
 refine X40_ok ?_
 unfold X40
 simp (disch:=first|exact dz|fail) only [max_ite,min_ite,SXB,SX,simprocAttr]
theorem least_ok {h:AH} {a b:Int}:Ex Tryz.prog 41 [.int .i64 a,.int .i64 b].toArray h (.int .i64 (min a b)) h:=by
 refine X41_ok ?_
 unfold X41
 simp (disch:=first|exact dz|fail) only [max_ite,min_ite,SXB,SX,simprocAttr]
theorem wrap_mod (x:Int):∃ k:Int,IntKind.i64.wrap x=x + k * 18446744073709551616∧-9223372036854775808 ≤ IntKind.i64.wrap x∧IntKind.i64.wrap x ≤ 9223372036854775807:=by
 rw [IntKind.wrap_i64]
 refine ⟨-((x + 9223372036854775808) / 18446744073709551616),?_,?_,?_⟩ <;> omega
theorem mul_lt {a b:Int} (ha:NumOK a) (hb:NumOK b):(a * b).natAbs ≤ 1099511627776 * 1099511627776:=by
 rw [Int.natAbs_mul];unfold NumOK at ha hb;exact Nat.mul_le_mul (by omega) (by omega)
theorem product_ok {h:AH} {a b:Int} (ha:NumOK a) (hb:NumOK b):Ex Tryz.prog 36 [.int .i64 a,.int .i64 b].toArray h (.int .i64 (productV a b)) h:=by
 refine X36_ok ?_
 unfold X36
 have hab:=mul_lt ha hb
 by_cases h0:a=0
 ·subst h0
  simp (disch:=first|exact dz|fail) only [SXB,SX,simprocAttr]
  unfold productV;rw [Int.zero_mul];rfl
 have ea:(a == 0)=false:=by simpa using h0
 by_cases h1:b=0
 ·subst h1
  have e0:((0:Int) == 0)=true:=rfl
  simp (disch:=first|exact dz|fail) only [ea,e0,SXB,SX,simprocAttr]
  unfold productV;rw [Int.mul_zero];rfl
 have eb:(b == 0)=false:=by simpa using h1
 obtain ⟨k,hk,hk1,hk2⟩:=wrap_mod (a * b)
 have hq:∀ p:Int,(p.tdiv b).natAbs ≤ p.natAbs∧(p.tdiv b=a→(a * b).natAbs ≤ p.natAbs):=fun p=>by
  refine ⟨by rw [Int.natAbs_tdiv];exact Nat.div_le_self _ _,fun h=>?_⟩
  rw [← h,Int.natAbs_mul,Int.natAbs_tdiv]
  exact Nat.div_mul_le_self _ _
 have hc:IntKind.i64.wrap ((IntKind.i64.wrap (a * b)).tdiv b)=(IntKind.i64.wrap (a * b)).tdiv b:=by
  have h3:=(hq (IntKind.i64.wrap (a * b))).1
  apply wrap64
  ·omega
  ·by_cases h4:(IntKind.i64.wrap (a * b)).tdiv b=9223372036854775808
   ·have h5:(IntKind.i64.wrap (a * b)) = -9223372036854775808:=by omega
    rw [h5] at h4
    have h6:b.natAbs=1:=by
     have:=congrArg Int.natAbs h4
     rw [Int.natAbs_tdiv] at this
     have h7:(-9223372036854775808:Int).natAbs=9223372036854775808:=rfl
     have h8:(9223372036854775808:Int).natAbs=9223372036854775808:=rfl
     rw [h7,h8] at this
     by_cases h9:b.natAbs=1
     ·exact h9
     ·have h10:9223372036854775808 / b.natAbs < 9223372036854775808:=Nat.div_lt_self (by omega) (by omega)
      have h11:9223372036854775808 / b.natAbs=9223372036854775808:=this
      rw [h11] at h10
      exact absurd h10 (Nat.lt_irrefl _)
    have h9:(a * b).natAbs=a.natAbs:=by rw [Int.natAbs_mul,h6,Nat.mul_one]
    unfold NumOK at ha
    omega
   ·generalize (IntKind.i64.wrap (a * b)).tdiv b=q at h3 h4 ⊢
    omega
 have e1:(IntKind.i64.wrap (a * b)).tdiv b=a→boundV (IntKind.i64.wrap (a * b))=IntKind.i64.wrap (a * b)→IntKind.i64.wrap (a * b)=productV a b:=fun h3 h4=>by
  have h5:=(hq _).2 h3
  unfold productV
  unfold boundV maxNum at h4 ⊢
  omega
 have e2:¬ ((IntKind.i64.wrap (a * b)).tdiv b=a∧boundV (IntKind.i64.wrap (a * b))=IntKind.i64.wrap (a * b))→productV a b=if (decide (a < 0) == decide (b < 0))=true then 1099511627776 else -1099511627776:=fun h3=>by
  have h4:1099511627776 < (a * b).natAbs:=by
   apply Classical.byContradiction
   intro h5
   apply h3
   have h6:IntKind.i64.wrap (a * b)=a * b:=wrap64 (by omega) (by omega)
   rw [h6]
   refine ⟨Int.mul_tdiv_cancel _ h1,?_⟩
   unfold boundV maxNum;omega
  unfold productV boundV maxNum
  by_cases ha0:a < 0
  ·by_cases hb0:b < 0
   ·have:=Int.mul_pos_of_neg_of_neg ha0 hb0
    rw [if_pos (by simp [ha0,hb0])];omega
   ·have:=Int.mul_neg_of_neg_of_pos ha0 (show 0 < b by omega)
    rw [if_neg (by simp [ha0,hb0])];omega
  ·by_cases hb0:b < 0
   ·have:=Int.mul_neg_of_pos_of_neg (show 0 < a by omega) hb0
    rw [if_neg (by simp [ha0,hb0])];omega
   ·have:=Int.mul_pos (show 0 < a by omega) (show 0 < b by omega)
    rw [if_pos (by simp [ha0,hb0])];omega
 generalize hp:IntKind.i64.wrap (a * b)=p at hk hk1 hk2 hc e1 e2
 have fin:∀ c:Bool,(c=true ↔ (p.tdiv b=a∧boundV p=p))→condP (some (.bool c)) (Res.ret (.int .i64 p)=Res.ret (.int .i64 (productV a b))) (condP (some (.bool (decide (a < 0) == decide (b < 0)))) (Res.ret (.int .i64 1099511627776)=Res.ret (.int .i64 (productV a b)))
   (Res.ret (.int .i64 (-1099511627776))=Res.ret (.int .i64 (productV a b)))):=fun c hc=>by
  cases c with
  | true =>
   obtain ⟨h3,h4⟩:=hc.1 rfl
   rw [condP_true,e1 h3 h4]
  | false =>
   rw [condP_false,e2 fun h3=>by have:=hc.2 h3;cases this]
   cases decide (a < 0) == decide (b < 0)
   ·rw [condP_false];rfl
   ·rw [condP_true];rfl
 cases hqa:p.tdiv b == a with
 | false =>
  simp (disch:=first|exact dz|fail) only [ea,eb,h1,hp,hc,hqa,SXB,SX,simprocAttr]
  have:=fin false (by simp at hqa ⊢;exact fun h=>absurd h hqa)
  rwa [condP_false] at this
 | true =>
  simp (disch:=first|exact dz|fail) only [ea,eb,h1,hp,hc,hqa,SXB,SX,simprocAttr]
  refine HC.exact (bound_ok p) ?_
  simp (disch:=first|exact dz|fail) only [SXB,SX,simprocAttr]
  exact fin _ (by simp at hqa ⊢;exact fun _=>hqa)
end Go.Proofs.YtibigfkeaemanaaGreatDoor.L
end
section
namespace Go.Proofs.YtibigfkeaemanaaGreatDoor.X
open Go.Ab
set_option maxRecDepth 100000
noncomputable def code10:Code:=match Tryz.f10.body with | some c=>c | none=>.skip
noncomputable def res10:List ResultVar:=Tryz.f10.results.toList
def L10:Nat→Option (List Nat):=fun r=>if r=6 then some [0,1,5,6] else if r=10 then some [0,1,5,6,7] else none
noncomputable def H10_6 (t0 t1 t5 t6:Value) (h:AH) (Q:RQ):Prop:=HL Tryz.prog (cAt code10 [.r,.r,.r,.r,.l,.r,.i,.i]) (mkA 36 [(0,t0),(1,t1),(5,t5),(6,t6)]) h (ctxAt Tryz.prog L10 code10 [.r,.r,.r,.r,.l,.r,.i] (retK Tryz.prog res10 Q))
noncomputable def J10_10 (t0 t1 t5 t6 t7:Value) (h:AH) (Q:RQ):Prop:=wpC Tryz.prog L10 (cAt code10 [.r,.r,.r,.r,.l,.r,.i,.i,.r,.i,.r,.r]) (mkA 36 [(0,t0),(1,t1),(5,t5),(6,t6),(7,t7)]) h (ctxAt Tryz.prog L10 code10 [.r,.r,.r,.r,.l,.r,.i,.i,.r,.i,.r,.r] (retK Tryz.prog res10 Q))
noncomputable def K10_10 (t0 t1 t5 t6 t7:Value) (h:AH) (Q:RQ):Prop:=(ctxAt Tryz.prog L10 code10 [.r,.r,.r,.r,.l,.r,.i,.i,.r,.i,.r,.l] (retK Tryz.prog res10 Q)) .normal (mkA 36 [(0,t0),(1,t1),(5,t5),(6,t6),(7,t7)]) h
theorem K10_10_eq (t0 t1 t5 t6 t7:Value) (h:AH) (Q:RQ):J10_10 t0 t1 t5 t6 t7 h Q=K10_10 t0 t1 t5 t6 t7 h Q:=join_eq (p:=[.r,.r,.r,.r,.l,.r,.i,.i,.r,.i,.r]) (code:=code10) (by kernel_rfl) (by kernel_rfl)
noncomputable def X10_10 (t0 t1 t5 t6 t7:Value) (h:AH) (Q:RQ):Prop :=
 let t28:Value:=t5
 let t29:Value:=t6
 let t30:Value:=t7
 bq (bd #[(Value.int .i64 0),(Value.int .i64 0)] [(0,1,t29),(1,1,t30)]) fun t31 =>
 bq (bs 33 #[(Value.int .i64 0),(Value.int .i64 0)] 1 h [(0,2,t31)]) fun r=>(fun t32 h =>
 bq (apT 33 2 16 (some (Value.agg #[(Value.int .i64 0),(Value.int .i64 0)])) h t28 t32) fun r=>(fun t33 h =>
 let t5:Value:=t33
 let t34:Value:=t7
 let t6:Value:=t34
 H10_6 t0 t1 t5 t6 h Q) r.1 r.2) r.1 r.2
theorem X10_10_eq (t0 t1 t5 t6 t7:Value) (h:AH) (Q:RQ):X10_10 t0 t1 t5 t6 t7 h Q=wpC Tryz.prog L10 (cAt code10 [.r,.r,.r,.r,.l,.r,.i,.i,.r,.i,.r,.r]) (mkA 36 [(0,t0),(1,t1),(5,t5),(6,t6),(7,t7)]) h (ctxAt Tryz.prog L10 code10 [.r,.r,.r,.r,.l,.r,.i,.i,.r,.i,.r,.r] (retK Tryz.prog res10 Q)):=by kernel_rfl
theorem X10_10_ok {t0 t1 t5 t6 t7:Value} {h:AH} {Q:RQ} (H:X10_10 t0 t1 t5 t6 t7 h Q):K10_10 t0 t1 t5 t6 t7 h Q:=(K10_10_eq t0 t1 t5 t6 t7 h Q).mp (((X10_10_eq t0 t1 t5 t6 t7 h Q).mp H))
noncomputable def X10_6 (t0 t1 t5 t6:Value) (h:AH) (Q:RQ):Prop :=
 let t16:Value:=t6
 let t17:Value:=t0
 bq (binV Tryz.prog .lss 3 (.tmp 16) (.tmp 17) t16 t17 h) fun t18 =>
 condP (some t18)
 (let t19:Value:=t0
 let t7:Value:=t19
 let t20:Value:=t0
 let t21:Value:=t6
 bq (binV Tryz.prog .sub 3 (.tmp 20) (.tmp 21) t20 t21 h) fun t22 =>
 let t23:Value:=t1
 bq (binV Tryz.prog .gtr 3 (.tmp 22) (.tmp 23) t22 t23 h) fun t24 =>
 condP (some t24)
 (let t25:Value:=t6
 let t26:Value:=t1
 bq (binV Tryz.prog .add 3 (.tmp 25) (.tmp 26) t25 t26 h) fun t27 =>
 let t7:Value:=t27
 K10_10 t0 t1 t5 t6 t7 h Q)
 (K10_10 t0 t1 t5 t6 t7 h Q))
 (let t35:Value:=t5
 let t4:Value:=t35
 Q (.ret t4) h)
theorem X10_6_eq (t0 t1 t5 t6:Value) (h:AH) (Q:RQ):X10_6 t0 t1 t5 t6 h Q=wpC Tryz.prog L10 (cAt code10 [.r,.r,.r,.r,.l,.r,.i,.i]) (mkA 36 [(0,t0),(1,t1),(5,t5),(6,t6)]) h (ctxAt Tryz.prog L10 code10 [.r,.r,.r,.r,.l,.r,.i,.i] (retK Tryz.prog res10 Q)):=by kernel_rfl
theorem X10_6_ok {t0 t1 t5 t6:Value} {h:AH} {Q:RQ} (H:X10_6 t0 t1 t5 t6 h Q):H10_6 t0 t1 t5 t6 h Q:=HL.step (L:=L10) ((X10_6_eq t0 t1 t5 t6 h Q).mp H)
noncomputable def X10 (t0 t1:Value) (h:AH) (Q:RQ):Prop :=
 let t4:Value:=(Value.slice none 0 0)
 let t8:Value:=t0
 bq (binV Tryz.prog .lss 3 (.tmp 8) (.const (Value.int .i64 1)) t8 (Value.int .i64 1) h) fun t9 =>
 condP (some t9)
 (let t4:Value:=(Value.slice none 0 0)
 Q (.ret t4) h)
 (let t10:Value:=t1
 let t11:Value:=t0
 bq (binV Tryz.prog .sub 3 (.tmp 11) (.const (Value.int .i64 1)) t11 (Value.int .i64 1) h) fun t12 =>
 bq (binV Tryz.prog .quo 3 (.tmp 12) (.const (Value.int .i64 256)) t12 (Value.int .i64 256) h) fun t13 =>
 bq (binV Tryz.prog .add 3 (.tmp 13) (.const (Value.int .i64 1)) t13 (Value.int .i64 1) h) fun t14 =>
 (if [t10,t14].all (plainN 12) then bq (flatV Tryz.prog (Builtin.max_ #[3,3] 3 [t10,t14].toArray)) fun t15 =>
 let t1:Value:=t15
 let t5:Value:=(Value.slice none 0 0)
 let t6:Value:=(Value.int .i64 0)
 H10_6 t0 t1 t5 t6 h Q else False))
theorem X10_eq (t0 t1:Value) (h:AH) (Q:RQ):X10 t0 t1 h Q=wpC Tryz.prog L10 code10 (argA [t0,t1] Tryz.f10.ntmps) h (retK Tryz.prog res10 Q):=by kernel_rfl
theorem X10_body:Tryz.f10.body=some code10:=by kernel_rfl
theorem X10_ok {t0 t1:Value} {h:AH} {Q:RQ} (H:X10 t0 t1 h Q):HC Tryz.prog 10 [t0,t1].toArray h Q:=HC.body Tryz.func10 X10_body ((X10_eq t0 t1 h Q).mp H)
noncomputable def code11:Code:=match Tryz.f11.body with | some c=>c | none=>.skip
noncomputable def res11:List ResultVar:=Tryz.f11.results.toList
def L11:Nat→Option (List Nat):=fun r=>if r=7 then some [2,7] else if r=10 then some [7] else none
noncomputable def J11_7 (t2 t7:Value) (h:AH) (Q:RQ):Prop:=wpC Tryz.prog L11 (cAt code11 [.r,.r,.r,.r]) (mkA 47 [(2,t2),(7,t7)]) h (ctxAt Tryz.prog L11 code11 [.r,.r,.r,.r] (retK Tryz.prog res11 Q))
noncomputable def K11_7 (t2 t7:Value) (h:AH) (Q:RQ):Prop:=(ctxAt Tryz.prog L11 code11 [.r,.r,.r,.l] (retK Tryz.prog res11 Q)) .normal (mkA 47 [(2,t2),(7,t7)]) h
theorem K11_7_eq (t2 t7:Value) (h:AH) (Q:RQ):J11_7 t2 t7 h Q=K11_7 t2 t7 h Q:=join_eq (p:=[.r,.r,.r]) (code:=code11) (by kernel_rfl) (by kernel_rfl)
noncomputable def J11_10 (t7:Value) (h:AH) (Q:RQ):Prop:=wpC Tryz.prog L11 (cAt code11 [.r,.r,.r,.r,.r]) (mkA 47 [(7,t7)]) h (ctxAt Tryz.prog L11 code11 [.r,.r,.r,.r,.r] (retK Tryz.prog res11 Q))
noncomputable def K11_10 (t7:Value) (h:AH) (Q:RQ):Prop:=(ctxAt Tryz.prog L11 code11 [.r,.r,.r,.r,.l] (retK Tryz.prog res11 Q)) .normal (mkA 47 [(7,t7)]) h
theorem K11_10_eq (t7:Value) (h:AH) (Q:RQ):J11_10 t7 h Q=K11_10 t7 h Q:=join_eq (p:=[.r,.r,.r,.r]) (code:=code11) (by kernel_rfl) (by kernel_rfl)
noncomputable def X11_10 (t7:Value) (h:AH) (Q:RQ):Prop :=
 let t46:Value:=t7
 let t6:Value:=t46
 Q (.ret t6) h
theorem X11_10_eq (t7:Value) (h:AH) (Q:RQ):X11_10 t7 h Q=wpC Tryz.prog L11 (cAt code11 [.r,.r,.r,.r,.r]) (mkA 47 [(7,t7)]) h (ctxAt Tryz.prog L11 code11 [.r,.r,.r,.r,.r] (retK Tryz.prog res11 Q)):=by kernel_rfl
theorem X11_10_ok {t7:Value} {h:AH} {Q:RQ} (H:X11_10 t7 h Q):K11_10 t7 h Q:=(K11_10_eq t7 h Q).mp (((X11_10_eq t7 h Q).mp H))
noncomputable def X11_7 (t2 t7:Value) (h:AH) (Q:RQ):Prop :=
 let t38:Value:=t7
 let t39:Value:=t2
 bq (binV Tryz.prog .rem 3 (.tmp 38) (.tmp 39) t38 t39 h) fun t40 =>
 let t7:Value:=t40
 let t41:Value:=t7
 bq (binV Tryz.prog .lss 3 (.tmp 41) (.const (Value.int .i64 0)) t41 (Value.int .i64 0) h) fun t42 =>
 condP (some t42)
 (let t43:Value:=t7
 let t44:Value:=t2
 bq (binV Tryz.prog .add 3 (.tmp 43) (.tmp 44) t43 t44 h) fun t45 =>
 let t7:Value:=t45
 K11_10 t7 h Q)
 (K11_10 t7 h Q)
theorem X11_7_eq (t2 t7:Value) (h:AH) (Q:RQ):X11_7 t2 t7 h Q=wpC Tryz.prog L11 (cAt code11 [.r,.r,.r,.r]) (mkA 47 [(2,t2),(7,t7)]) h (ctxAt Tryz.prog L11 code11 [.r,.r,.r,.r] (retK Tryz.prog res11 Q)):=by kernel_rfl
theorem X11_7_ok {t2 t7:Value} {h:AH} {Q:RQ} (H:X11_7 t2 t7 h Q):K11_7 t2 t7 h Q:=(K11_7_eq t2 t7 h Q).mp (((X11_7_eq t2 t7 h Q).mp H))
noncomputable def X11 (t0 t1 t2:Value) (h:AH) (Q:RQ):Prop :=
 let t6:Value:=(Value.int .i64 0)
 let t9:Value:=t0
 bq (binV Tryz.prog .eql 22 (.tmp 9) (.const (Value.pointer none)) t9 (Value.pointer none) h) fun t10 =>
 let t11:Value:=t10
 guardQ t11 false h (fun k=>k t2 h) fun t12 h =>
 guardQ t11 false h (fun k=>bq (binV Tryz.prog .lss 3 (.tmp 12) (.const (Value.int .i64 1)) t12 (Value.int .i64 1) h) fun v=>k v h) fun t13 h =>
 bq (pickV t11 (Value.bool true) t13) fun t14 =>
 condP (some t14)
 (let t6:Value:=(Value.int .i64 0)
 Q (.ret t6) h)
 (let t15:Value:=t1
 HC Tryz.prog 21 (([]:List Value)++[t15]++([]:List Value)).toArray h (resK (fun t16 h =>
 bq (convV Tryz.prog 72 3 t16 h) fun r=>(fun t17 h =>
 let t7:Value:=t17
 let t18:Value:=t0
 bq (nilV Tryz.prog t18) fun t19 =>
 bq (fa 4 1 t19) fun t20 =>
 bq (ld1 h t20) fun t21 =>
 condP (some t21)
 (bq (bs 9 #[(Value.string (ByteArray.mk #[])),(Value.string (ByteArray.mk #[]))] 2 h [(0,1,(Value.string (ByteArray.mk #[107,101,121]))),(1,1,(Value.string (ByteArray.mk #[112,97,114,116,115])))]) fun r=>(fun t22 h =>
 let t23:Value:=t1
 bq (bd #[(Value.int .i64 0),(Value.string (ByteArray.mk #[])),(Value.slice none 0 0)] [(1,1,t23)]) fun t24 =>
 let t25:Value:=t2
 HC Tryz.prog 22 (([]:List Value)++[t25]++([]:List Value)).toArray h (resK (fun t26 h =>
 bq (bd #[(Value.int .i64 0),(Value.string (ByteArray.mk #[])),(Value.slice none 0 0)] [(0,1,t26)]) fun t27 =>
 bq (bs 68 #[(Value.int .i64 0),(Value.string (ByteArray.mk #[])),(Value.slice none 0 0),(Value.int .i64 0),(Value.string (ByteArray.mk #[])),(Value.slice none 0 0)] 2 h [(0,3,t24),(3,3,t27)]) fun r=>(fun t28 h =>
 bq (bd #[(Value.slice none 0 0),(Value.slice none 0 0),(Value.slice none 0 0)] [(0,1,t22),(1,1,t28)]) fun t29 =>
 (fun t30 h =>
 let t8:Value:=t30
 let t31:Value:=t8
 let t32:Value:=t0
 bq (nilV Tryz.prog t32) fun t33 =>
 bq (fa 5 5 t33) fun t34 =>
 bq (ldN 5 h t34) fun t35 =>
 HC Tryz.prog 23 (([]:List Value)++[t31,t35]++([]:List Value)).toArray h (resK (fun t36 h =>
 bq (fd1 0 t36) fun t37 =>
 let t7:Value:=t37
 K11_7 t2 t7 h Q) (fun v h=>Q (.pan v) h))) (opNew h 78 t29.cells).1 (opNew h 78 t29.cells).2) r.1 r.2) (fun v h=>Q (.pan v) h))) r.1 r.2)
 (K11_7 t2 t7 h Q)) r.1 r.2) (fun v h=>Q (.pan v) h)))
theorem X11_eq (t0 t1 t2:Value) (h:AH) (Q:RQ):X11 t0 t1 t2 h Q=wpC Tryz.prog L11 code11 (argA [t0,t1,t2] Tryz.f11.ntmps) h (retK Tryz.prog res11 Q):=by kernel_rfl
theorem X11_body:Tryz.f11.body=some code11:=by kernel_rfl
theorem X11_ok {t0 t1 t2:Value} {h:AH} {Q:RQ} (H:X11 t0 t1 t2 h Q):HC Tryz.prog 11 [t0,t1,t2].toArray h Q:=HC.body Tryz.func11 X11_body ((X11_eq t0 t1 t2 h Q).mp H)
noncomputable def code21:Code:=match Tryz.f21.body with | some c=>c | none=>.skip
noncomputable def res21:List ResultVar:=Tryz.f21.results.toList
def L21:Nat→Option (List Nat):=fun r=>none
noncomputable def X21 (t0:Value) (h:AH) (Q:RQ):Prop :=
 let t2:Value:=(Value.int .u32 0)
 let t3:Value:=t0
 HC Tryz.prog 34 (([]:List Value)++[(Value.int .u32 0),t3]++([]:List Value)).toArray h (resK (fun t4 h =>
 let t2:Value:=t4
 Q (.ret t2) h) (fun v h=>Q (.pan v) h))
theorem X21_eq (t0:Value) (h:AH) (Q:RQ):X21 t0 h Q=wpC Tryz.prog L21 code21 (argA [t0] Tryz.f21.ntmps) h (retK Tryz.prog res21 Q):=by kernel_rfl
theorem X21_body:Tryz.f21.body=some code21:=by kernel_rfl
theorem X21_ok {t0:Value} {h:AH} {Q:RQ} (H:X21 t0 h Q):HC Tryz.prog 21 [t0].toArray h Q:=HC.body Tryz.func21 X21_body ((X21_eq t0 h Q).mp H)
noncomputable def code34:Code:=match Tryz.f34.body with | some c=>c | none=>.skip
noncomputable def res34:List ResultVar:=Tryz.f34.results.toList
def L34:Nat→Option (List Nat):=fun r=>if r=3 then some [1,5,10,11] else none
noncomputable def H34_3 (t1 t5 t10 t11:Value) (h:AH) (Q:RQ):Prop:=HL Tryz.prog (cAt code34 [.r,.r,.l,.r,.i,.i]) (mkA 37 [(1,t1),(5,t5),(10,t10),(11,t11)]) h (ctxAt Tryz.prog L34 code34 [.r,.r,.l,.r,.i] (retK Tryz.prog res34 Q))
noncomputable def X34_3 (t1 t5 t10 t11:Value) (h:AH) (Q:RQ):Prop :=
 bq (binV Tryz.prog .lss 3 (.tmp 11) (.tmp 10) t11 t10 h) fun t12 =>
 condP (some t12)
 (let t13:Value:=t11
 let t6:Value:=t13
 let t14:Value:=t5
 let t15:Value:=t1
 let t16:Value:=t6
 bq (ixS t15 t16) fun t17 =>
 bq (convV Tryz.prog 5 72 t17 h) fun r=>(fun t18 h =>
 bq (binV Tryz.prog .xor 72 (.tmp 14) (.tmp 18) t14 t18 h) fun t19 =>
 let t5:Value:=t19
 let t20:Value:=t5
 bq (binV Tryz.prog .shr 72 (.tmp 20) (.const (Value.int .u64 4)) t20 (Value.int .u64 4) h) fun t21 =>
 let t22:Value:=t5
 bq (binV Tryz.prog .and 72 (.tmp 22) (.const (Value.int .u32 15)) t22 (Value.int .u32 15) h) fun t23 =>
 bq (iaA 16 1 (Value.pointer (some ⟨0,0,none⟩)) t23) fun t24 =>
 bq (ld1 h t24) fun t25 =>
 bq (binV Tryz.prog .xor 72 (.tmp 21) (.tmp 25) t21 t25 h) fun t26 =>
 let t5:Value:=t26
 let t27:Value:=t5
 bq (binV Tryz.prog .shr 72 (.tmp 27) (.const (Value.int .u64 4)) t27 (Value.int .u64 4) h) fun t28 =>
 let t29:Value:=t5
 bq (binV Tryz.prog .and 72 (.tmp 29) (.const (Value.int .u32 15)) t29 (Value.int .u32 15) h) fun t30 =>
 bq (iaA 16 1 (Value.pointer (some ⟨0,0,none⟩)) t30) fun t31 =>
 bq (ld1 h t31) fun t32 =>
 bq (binV Tryz.prog .xor 72 (.tmp 28) (.tmp 32) t28 t32 h) fun t33 =>
 let t5:Value:=t33
 bq (binV Tryz.prog .add 3 (.tmp 11) (.const (Value.int .i64 1)) t11 (Value.int .i64 1) h) fun t34 =>
 let t11:Value:=t34
 H34_3 t1 t5 t10 t11 h Q) r.1 r.2)
 (let t35:Value:=t5
 bq (unV Tryz.prog .xor t35) fun t36 =>
 let t4:Value:=t36
 Q (.ret t4) h)
theorem X34_3_eq (t1 t5 t10 t11:Value) (h:AH) (Q:RQ):X34_3 t1 t5 t10 t11 h Q=wpC Tryz.prog L34 (cAt code34 [.r,.r,.l,.r,.i,.i]) (mkA 37 [(1,t1),(5,t5),(10,t10),(11,t11)]) h (ctxAt Tryz.prog L34 code34 [.r,.r,.l,.r,.i,.i] (retK Tryz.prog res34 Q)):=by kernel_rfl
theorem X34_3_ok {t1 t5 t10 t11:Value} {h:AH} {Q:RQ} (H:X34_3 t1 t5 t10 t11 h Q):H34_3 t1 t5 t10 t11 h Q:=HL.step (L:=L34) ((X34_3_eq t1 t5 t10 t11 h Q).mp H)
noncomputable def X34 (t0 t1:Value) (h:AH) (Q:RQ):Prop :=
 let t4:Value:=(Value.int .u32 0)
 let t7:Value:=t0
 bq (unV Tryz.prog .xor t7) fun t8 =>
 let t5:Value:=t8
 let t9:Value:=t1
 bq (lenS t9) fun t10 =>
 let t11:Value:=(Value.int .i64 0)
 H34_3 t1 t5 t10 t11 h Q
theorem X34_eq (t0 t1:Value) (h:AH) (Q:RQ):X34 t0 t1 h Q=wpC Tryz.prog L34 code34 (argA [t0,t1] Tryz.f34.ntmps) h (retK Tryz.prog res34 Q):=by kernel_rfl
theorem X34_body:Tryz.f34.body=some code34:=by kernel_rfl
theorem X34_ok {t0 t1:Value} {h:AH} {Q:RQ} (H:X34 t0 t1 h Q):HC Tryz.prog 34 [t0,t1].toArray h Q:=HC.body Tryz.func34 X34_body ((X34_eq t0 t1 h Q).mp H)
end Go.Proofs.YtibigfkeaemanaaGreatDoor.X
end
