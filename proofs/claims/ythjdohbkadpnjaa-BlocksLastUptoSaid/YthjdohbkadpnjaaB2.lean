/-
  Managers of blocks: what lies in the heap, and who is there.
-/
import Derived.Test.YthjdohbkadpnjaaB1
import Derived.Test.YthjdohbkadpnjaaAbC
import Derived.Test.YthjdohbkadpnjaaShelf
namespace Go.Proofs.Ythjdohbkadpnjaa.B
open Go.Ab Go.Proofs.Ythjdohbkadpnjaa.X
set_option linter.unusedVariables false
set_option linter.unusedSimpArgs false
set_option maxRecDepth 100000

abbrev Blk := Int × Int × Int
def encB (b : Blk) : Value := .agg #[.int .i64 b.1, .int .i64 b.2.1, .int .i64 b.2.2]

/-- what is known of a node; its map of blocks, and when it was put -/
structure Nd where
  n : Int
  re : Nat
  im : Nat
  heard : Int
  held : List Blk
  kh : Nat
  born : Nat

def Nd.val (x : Nd) : Value := .agg #[.complex .f64 x.re x.im, .int .i64 x.heard, .map (some x.kh)]
def Nd.ent (x : Nd) : MapEntry := ⟨.int .i64 x.n, x.val, x.born⟩

/-- a map whose keys are blocks -/
structure HeldAt (h : AH) (k : Nat) (l : List Blk) : Prop where
  ex : ∃ (bs : List (Blk × Nat)) (clock : Nat), h.get k = some (.map (bs.map fun b => (⟨encB b.1, .int .i64 1, b.2⟩ : MapEntry)).toArray clock, none) ∧ (∀ b ∈ bs, b.2 < clock) ∧ (bs.map (·.2)).Nodup ∧ bs.map (·.1) = l
  nodup : l.Nodup

structure Mgr (h : AH) (km kn : Nat) (rep life : Int) (ns : List Nd) : Prop where
  m : h.get km = some (.cells #[.int .i64 rep, .int .i64 life, .map (some kn)] 87 (0, 0), none)
  n : ∃ clock, h.get kn = some (.map (ns.map Nd.ent).toArray clock, none) ∧ ∀ x ∈ ns, x.born < clock
  born : (ns.map (·.born)).Nodup
  keys : (ns.map (·.n)).Nodup
  held : ∀ x ∈ ns, HeldAt h x.kh x.held
  lt : km < h.size ∧ kn < h.size
  ltk : ∀ x ∈ ns, x.kh < h.size
  ne : km ≠ kn
  nek : ∀ x ∈ ns, x.kh ≠ km ∧ x.kh ≠ kn
  heard : ∀ x ∈ ns, 0 ≤ x.heard ∧ x.heard ≤ 1099511627776
  life : 1 ≤ life ∧ life ≤ 1099511627776

theorem HeldAt.mono {h h' : AH} {k : Nat} {l : List Blk} (x : HeldAt h k l) (g : h'.get k = h.get k) : HeldAt h' k l := by
  obtain ⟨⟨es, c, a, b⟩, n⟩ := x
  exact ⟨⟨es, c, g.trans a, b⟩, n⟩

theorem Mgr.mono {h h' : AH} {km kn : Nat} {rep life : Int} {ns : List Nd} (x : Mgr h km kn rep life ns) (f : Kp h.size h h') : Mgr h' km kn rep life ns :=
  { m := (f.get _ x.lt.1).trans x.m, n := by
      obtain ⟨c, a, b⟩ := x.n
      exact ⟨c, (f.get _ x.lt.2).trans a, b⟩
    born := x.born, keys := x.keys, held := fun y hy => (x.held y hy).mono (f.get _ (x.ltk y hy)), lt := ⟨Nat.lt_of_lt_of_le x.lt.1 f.size, Nat.lt_of_lt_of_le x.lt.2 f.size⟩
    ltk := fun y hy => Nat.lt_of_lt_of_le (x.ltk y hy) f.size, ne := x.ne, nek := x.nek, heard := x.heard, life := x.life }

theorem mom_bd (n l : Int) (hl : 0 ≤ l ∧ l ≤ 1099511627776) : 0 ≤ mom n l ∧ l ≤ mom n l ∧ mom n l ≤ 1099511627776 := by
  unfold mom minI maxI
  split <;> split <;> omega

/-- a function that says of nodes whether they are wanted -/
def OkSpec (h : AH) (ns : List Nd) (fv : Value) (p : Nd → Bool) : Prop := ∃ f a c, fv = .func (.func f) a c ∧ hasBody Try.prog f = true ∧
  ∀ h', Kp h.size h h' → ∀ x ∈ ns, Ex Try.prog f (a.toList ++ [.int .i64 x.n, x.val] ++ c.toList).toArray h' (.bool (p x)) h'

def wanted (now life : Int) (p : Nd → Bool) (x : Nd) : Bool := decide (mom now 0 - x.heard < life) && p x
def sel (now life : Int) (p : Nd → Bool) (l : List Nd) : List Int := (l.filter (wanted now life p)).map (·.n)
def enI (l : List Int) : List Value := l.map (Value.int .i64)

theorem sel_app (now life : Int) (p : Nd → Bool) (l : List Nd) (x : Nd) : sel now life p (l ++ [x]) = sel now life p l ++ (if wanted now life p x then [x.n] else []) := by
  unfold sel
  rw [List.filter_append, List.map_append]
  congr 1
  cases h : wanted now life p x <;> simp [h]

theorem enI_cells (l : List Int) : ∀ v ∈ enI l, v.cells.size = 1 := by
  intro v hv
  obtain ⟨x, _, rfl⟩ := List.mem_map.1 hv
  rfl
theorem flat_enI (l : List Int) : flatC (enI l) = enI l := by
  induction l with
  | nil => rfl
  | cons a l ih => show [Value.int .i64 a] ++ flatC (enI l) = _; rw [ih]; rfl

def srt (l : List Int) : List Int := l.mergeSort fun x y => decide (x ≤ y)

theorem sort_nil (h : AH) : Ex Try.prog 42 #[.slice none 0 0] h (.tuple #[]) h := Ex.of_fnA 40 (q := false) (by kernel_rfl)

theorem sort_ok {h : AH} {e lo : Nat} {s : Value} {l : List Int} (o : Hld e 1 h lo s (enI l)) (hsz : l.length ≤ 1048576) :
    HC Try.prog 42 [s].toArray h fun r g => r = .ret (.tuple #[]) ∧ Hld e 1 g lo s (enI (srt l)) ∧ Kp lo h g :=
  HC.sortHld (fun blk off cap zs w hH hblk hsz => Try.slices_Sort_int blk off cap zs w hH hblk hsz) sort_nil o (by omega)

theorem those_loop {h : AH} {km kn r : Nat} {rep life now : Int} {ns : List Nd} {fv : Value} {p : Nd → Bool} (M : Mgr h km kn rep life ns) (hf : OkSpec h ns fv p) (hb : ns.length ≤ 1048576) {Q : Res → AH → Prop}
    (hQ : ∀ h' s us, us.Perm ns → Kp h.size h h' → Hld 3 1 h' h.size s (enI (srt (sel now life p us))) → Q (.ret s) h') :
    ∀ (n : Nat) (us : List Nd) (h1 : AH) (s : Value), ns.length < us.length + n → (∀ x ∈ us, x ∈ ns) → Walk h1 r kn (ns.map Nd.ent).toArray (us.map Nd.ent) → Kp h.size h h1 → h.size ≤ r → r < h1.size → blkOf s ≠ some r → (∀ k, blkOf s = some k → k < h1.size) →
      Hld 3 1 h1 h.size s (enI (sel now life p us)) → H25_5 (.pointer (some ⟨km, 0, none⟩)) (.int .i64 now) fv s (.pointer (some ⟨r, 0, none⟩)) h1 Q := by
  intro n
  induction n with
  | zero =>
    intro us h1 s hn hu W
    have := W.length
    simp at this
    omega
  | succ n ih =>
    intro us h1 s hn hu W K hr1 hr2 hs hs2 O
    have hlen := W.length
    simp only [List.length_map, List.size_toArray] at hlen
    refine X25_5_ok ?_
    unfold X25_5
    have hne : r ≠ kn := by have := M.lt.2; omega
    refine W.next hne (fun hp => ?_) (fun e h2 he hv hsz hg W2 => ?_)
    · unfold overV
      simp (disch := (first | omega | (simp only [beq_iff_eq, sz_push, sz_put, cells_agg, cells_int, cells_bool, cells_string, cells_pointer, cells_slice, cells_map, cells_iface, cells_nilIface, cells_func, cells_float, cells_complex, cells_vs, cells_fp, one_int, one_bool, one_string, one_pointer, one_slice, one_map, one_iface, one_nilIface, one_func, one_float, one_complex, one_vs, one_fp, List.size_toArray, List.length_cons, List.length_nil, List.all_cons, List.all_nil, Bool.and_true, Bool.true_and, Bool.and_self, Nat.zero_add, Nat.add_zero, Nat.reduceAdd, Nat.reduceLeDiff]; done) | (simp only [beq_iff_eq, ne_eq, sz_push, sz_put]; omega) | assumption | fail)) only [bin_add_3, bin_eql_3, bin_eql_32_nn, bin_eql_32_an, bin_eql_37, bin_geq_3, bin_geq_37, bin_gtr_120, bin_gtr_3, bin_gtr_37, bin_leq_3, bin_leq_37, bin_lss_120, bin_lss_3, bin_lss_37, bin_mul_3, bin_neq_120, bin_neq_3, bin_neq_37, bin_neq_4, bin_rem_3, bin_sub_3, eqs_25, bin_eql_25, bin_neq_25, eqs_48, bin_eql_48, bin_neq_48, eqs_58, bin_eql_58, un_not, max_3, min_3, conv_3_120, rng_72, rng_85, hb_2, hb_3, hb_4, hb_5, hb_6, hb_7, hb_8, hb_9, hb_10, hb_11, hb_12, hb_13, hb_14, hb_15, hb_16, hb_17, hb_18, hb_19, hb_20, hb_21, hb_22, hb_23, hb_24, hb_25, hb_26, hb_27, hb_28, hb_29, hb_30, hb_31, hb_32, hb_33, hb_34, hb_35, hb_36, hb_37, hb_38, hb_39, hb_40, hb_41, hb_42, hb_43, hb_44, hb_45, hb_46, hb_47, hb_48, hb_49, hb_50, hb_51, hb_52, hb_53, hb_54, hb_55, hb_56, hb_57, hb_58, hb_59, hb_60, hb_61, hb_62, hb_63, hb_64, hb_65, hb_66, hb_67, hb_68, hb_69, hb_70, hb_71, hb_72, hb_73, hb_74, hb_75, hb_76, hb_77, hb_78, hb_79, hb_80, hb_81, hb_82, hb_83, hb_84, hb_85, hb_86, hb_87, hb_88, hb_89, hb_90, hb_91, hb_92, hb_93, hb_94, hb_95, hb_96, hb_97, hb_98, hb_99, hb_100, hb_101, hb_102, hb_103, hb_104, hb_105, hb_106, bq_some, oq_some, get_push_e, get_push_ne, get_put_e, get_put_ne, sz_push, sz_put, rowC_cells, setC_cells, ld1_ptr, ld1_fp, ldN_ptr, ldN_fp, stN_ptr, fa_ptr, fa_fp, fd1_agg, fdN_agg, ia_vs, ia_sl, iaA_ptr, iaA_fp, lenL_vs, lenL_sl, lenL_slV, lenS_s, lenM_nil, lenM_map, lenE_map, rngE_map, opExtract_tuple, nilV_ptr, nilV_iface, nilV_func, nilV_fp, pickV_bool, wrap64, cells_agg, cells_int, cells_bool, cells_string, cells_pointer, cells_slice, cells_map, cells_iface, cells_nilIface, cells_func, cells_float, cells_complex, cells_vs, cells_fp, one_int, one_bool, one_string, one_pointer, one_slice, one_map, one_iface, one_nilIface, one_func, one_float, one_complex, one_vs, one_fp, setFrom_nil, setFrom_cons, bd_eq, bdF_nil, bdF_cons, bs_eq, new1, new2, mm1, mm2, callX_func, callP_func, condP_true, condP_false, guardQ_true, guardQ_false, guardQ_true', guardQ_false', plain_int, plain_bool, plain_string, plain_float, plain_complex, Option.bind_some, Option.bind_none, Option.map_some, Option.map_none, List.getElem?_toArray, List.getElem?_cons_zero, List.getElem?_cons_succ, List.size_toArray, List.length_cons, List.length_nil, List.extract_toArray, List.extract_eq_take_drop, List.drop_zero, List.drop_succ_cons, List.take_succ_cons, List.take_zero, List.take_nil, List.drop_nil, List.setIfInBounds_toArray, List.set_cons_zero, List.set_cons_succ, List.toList_toArray, List.all_cons, List.all_nil, Bool.and_true, Bool.true_and, Bool.and_self, Bool.false_and, Bool.and_false, Bool.or_false, Bool.false_or, Bool.or_true, Bool.true_or, Bool.not_true, Bool.not_false, if_true, if_false, and_true, true_and, false_and, and_false, eq_self, ne_eq, not_true_eq_false, not_false_eq_true, decide_true, decide_false, Bool.false_eq_true, Bool.true_eq_false, reduceIte, Nat.zero_add, Nat.add_zero, Nat.mul_one, Nat.one_mul, Nat.zero_mul, Int.toNat_natCast, List.nil_append, List.append_nil, List.cons_append, Array.toList_empty, List.getElem?_map, ge_iff_le, gt_iff_lt, decide_eq_true_eq, bne_self_eq_false, beq_self_eq_true, Int.natCast_nonneg, Nat.lt_irrefl, Nat.le_refl]
      have hsel : (sel now life p us).length ≤ 1048576 := by
        unfold sel
        rw [List.length_map]
        have := List.length_filter_le (wanted now life p) us
        omega
      refine (sort_ok O hsel).mono ?_
      rintro r' g ⟨rfl, O', K'⟩
      refine hQ g s us ?_ (K.trans K') O'
      refine perm_of_nodup (nodup_of_map (f := (fun x => x.born) ∘ Nd.ent) (by simpa using W.vnodup)) (nodup_of_map M.born) fun a => ⟨hu a, fun ha => ?_⟩
      have h1 : a.ent ∈ us.map Nd.ent := hp.symm.mem_iff.1 (by simpa using ⟨a, ha, rfl⟩)
      obtain ⟨u, hu1, hu2⟩ := List.mem_map.1 h1
      rw [← map_inj M.born (hu u hu1) ha (congrArg MapEntry.born hu2)]
      exact hu1
    · obtain ⟨x, hx, rfl⟩ : ∃ x, x ∈ ns ∧ x.ent = e := by simpa using he
      have E1 := W2.entry
      have K2 : Kp h.size h h2 := K.trans ⟨by omega, fun k hk => hg k (by omega)⟩
      have hm := mom_bd now 0 (by omega)
      have hh := M.heard x hx
      have hl := M.life
      have hlt := M.lt
      have g1 : h2.get km = _ := (K2.get km hlt.1).trans M.m
      have hz2 := K2.size
      have hO : Hld 3 1 h2 h.size s (enI (sel now life p us)) := O.mono fun k hk => hg k (fun e => hs (by rw [← e]; exact hk))
      simp (disch := (first | omega | (simp only [beq_iff_eq, sz_push, sz_put, cells_agg, cells_int, cells_bool, cells_string, cells_pointer, cells_slice, cells_map, cells_iface, cells_nilIface, cells_func, cells_float, cells_complex, cells_vs, cells_fp, one_int, one_bool, one_string, one_pointer, one_slice, one_map, one_iface, one_nilIface, one_func, one_float, one_complex, one_vs, one_fp, List.size_toArray, List.length_cons, List.length_nil, List.all_cons, List.all_nil, Bool.and_true, Bool.true_and, Bool.and_self, Nat.zero_add, Nat.add_zero, Nat.reduceAdd, Nat.reduceLeDiff]; done) | (simp only [beq_iff_eq, ne_eq, sz_push, sz_put]; omega) | assumption | fail)) only [E1, Nd.ent, Nd.val, g1, bin_add_3, bin_eql_3, bin_eql_32_nn, bin_eql_32_an, bin_eql_37, bin_geq_3, bin_geq_37, bin_gtr_120, bin_gtr_3, bin_gtr_37, bin_leq_3, bin_leq_37, bin_lss_120, bin_lss_3, bin_lss_37, bin_mul_3, bin_neq_120, bin_neq_3, bin_neq_37, bin_neq_4, bin_rem_3, bin_sub_3, eqs_25, bin_eql_25, bin_neq_25, eqs_48, bin_eql_48, bin_neq_48, eqs_58, bin_eql_58, un_not, max_3, min_3, conv_3_120, rng_72, rng_85, hb_2, hb_3, hb_4, hb_5, hb_6, hb_7, hb_8, hb_9, hb_10, hb_11, hb_12, hb_13, hb_14, hb_15, hb_16, hb_17, hb_18, hb_19, hb_20, hb_21, hb_22, hb_23, hb_24, hb_25, hb_26, hb_27, hb_28, hb_29, hb_30, hb_31, hb_32, hb_33, hb_34, hb_35, hb_36, hb_37, hb_38, hb_39, hb_40, hb_41, hb_42, hb_43, hb_44, hb_45, hb_46, hb_47, hb_48, hb_49, hb_50, hb_51, hb_52, hb_53, hb_54, hb_55, hb_56, hb_57, hb_58, hb_59, hb_60, hb_61, hb_62, hb_63, hb_64, hb_65, hb_66, hb_67, hb_68, hb_69, hb_70, hb_71, hb_72, hb_73, hb_74, hb_75, hb_76, hb_77, hb_78, hb_79, hb_80, hb_81, hb_82, hb_83, hb_84, hb_85, hb_86, hb_87, hb_88, hb_89, hb_90, hb_91, hb_92, hb_93, hb_94, hb_95, hb_96, hb_97, hb_98, hb_99, hb_100, hb_101, hb_102, hb_103, hb_104, hb_105, hb_106, bq_some, oq_some, get_push_e, get_push_ne, get_put_e, get_put_ne, sz_push, sz_put, rowC_cells, setC_cells, ld1_ptr, ld1_fp, ldN_ptr, ldN_fp, stN_ptr, fa_ptr, fa_fp, fd1_agg, fdN_agg, ia_vs, ia_sl, iaA_ptr, iaA_fp, lenL_vs, lenL_sl, lenL_slV, lenS_s, lenM_nil, lenM_map, lenE_map, rngE_map, opExtract_tuple, nilV_ptr, nilV_iface, nilV_func, nilV_fp, pickV_bool, wrap64, cells_agg, cells_int, cells_bool, cells_string, cells_pointer, cells_slice, cells_map, cells_iface, cells_nilIface, cells_func, cells_float, cells_complex, cells_vs, cells_fp, one_int, one_bool, one_string, one_pointer, one_slice, one_map, one_iface, one_nilIface, one_func, one_float, one_complex, one_vs, one_fp, setFrom_nil, setFrom_cons, bd_eq, bdF_nil, bdF_cons, bs_eq, new1, new2, mm1, mm2, callX_func, callP_func, condP_true, condP_false, guardQ_true, guardQ_false, guardQ_true', guardQ_false', plain_int, plain_bool, plain_string, plain_float, plain_complex, Option.bind_some, Option.bind_none, Option.map_some, Option.map_none, List.getElem?_toArray, List.getElem?_cons_zero, List.getElem?_cons_succ, List.size_toArray, List.length_cons, List.length_nil, List.extract_toArray, List.extract_eq_take_drop, List.drop_zero, List.drop_succ_cons, List.take_succ_cons, List.take_zero, List.take_nil, List.drop_nil, List.setIfInBounds_toArray, List.set_cons_zero, List.set_cons_succ, List.toList_toArray, List.all_cons, List.all_nil, Bool.and_true, Bool.true_and, Bool.and_self, Bool.false_and, Bool.and_false, Bool.or_false, Bool.false_or, Bool.or_true, Bool.true_or, Bool.not_true, Bool.not_false, if_true, if_false, and_true, true_and, false_and, and_false, eq_self, ne_eq, not_true_eq_false, not_false_eq_true, decide_true, decide_false, Bool.false_eq_true, Bool.true_eq_false, reduceIte, Nat.zero_add, Nat.add_zero, Nat.mul_one, Nat.one_mul, Nat.zero_mul, Int.toNat_natCast, List.nil_append, List.append_nil, List.cons_append, Array.toList_empty, List.getElem?_map, ge_iff_le, gt_iff_lt, decide_eq_true_eq, bne_self_eq_false, beq_self_eq_true, Int.natCast_nonneg, Nat.lt_irrefl, Nat.le_refl]
      refine exP_of (moment_ok _ _ _) ?_
      simp (disch := (first | omega | (simp only [beq_iff_eq, sz_push, sz_put, cells_agg, cells_int, cells_bool, cells_string, cells_pointer, cells_slice, cells_map, cells_iface, cells_nilIface, cells_func, cells_float, cells_complex, cells_vs, cells_fp, one_int, one_bool, one_string, one_pointer, one_slice, one_map, one_iface, one_nilIface, one_func, one_float, one_complex, one_vs, one_fp, List.size_toArray, List.length_cons, List.length_nil, List.all_cons, List.all_nil, Bool.and_true, Bool.true_and, Bool.and_self, Nat.zero_add, Nat.add_zero, Nat.reduceAdd, Nat.reduceLeDiff]; done) | (simp only [beq_iff_eq, ne_eq, sz_push, sz_put]; omega) | assumption | fail)) only [g1, bin_add_3, bin_eql_3, bin_eql_32_nn, bin_eql_32_an, bin_eql_37, bin_geq_3, bin_geq_37, bin_gtr_120, bin_gtr_3, bin_gtr_37, bin_leq_3, bin_leq_37, bin_lss_120, bin_lss_3, bin_lss_37, bin_mul_3, bin_neq_120, bin_neq_3, bin_neq_37, bin_neq_4, bin_rem_3, bin_sub_3, eqs_25, bin_eql_25, bin_neq_25, eqs_48, bin_eql_48, bin_neq_48, eqs_58, bin_eql_58, un_not, max_3, min_3, conv_3_120, rng_72, rng_85, hb_2, hb_3, hb_4, hb_5, hb_6, hb_7, hb_8, hb_9, hb_10, hb_11, hb_12, hb_13, hb_14, hb_15, hb_16, hb_17, hb_18, hb_19, hb_20, hb_21, hb_22, hb_23, hb_24, hb_25, hb_26, hb_27, hb_28, hb_29, hb_30, hb_31, hb_32, hb_33, hb_34, hb_35, hb_36, hb_37, hb_38, hb_39, hb_40, hb_41, hb_42, hb_43, hb_44, hb_45, hb_46, hb_47, hb_48, hb_49, hb_50, hb_51, hb_52, hb_53, hb_54, hb_55, hb_56, hb_57, hb_58, hb_59, hb_60, hb_61, hb_62, hb_63, hb_64, hb_65, hb_66, hb_67, hb_68, hb_69, hb_70, hb_71, hb_72, hb_73, hb_74, hb_75, hb_76, hb_77, hb_78, hb_79, hb_80, hb_81, hb_82, hb_83, hb_84, hb_85, hb_86, hb_87, hb_88, hb_89, hb_90, hb_91, hb_92, hb_93, hb_94, hb_95, hb_96, hb_97, hb_98, hb_99, hb_100, hb_101, hb_102, hb_103, hb_104, hb_105, hb_106, bq_some, oq_some, get_push_e, get_push_ne, get_put_e, get_put_ne, sz_push, sz_put, rowC_cells, setC_cells, ld1_ptr, ld1_fp, ldN_ptr, ldN_fp, stN_ptr, fa_ptr, fa_fp, fd1_agg, fdN_agg, ia_vs, ia_sl, iaA_ptr, iaA_fp, lenL_vs, lenL_sl, lenL_slV, lenS_s, lenM_nil, lenM_map, lenE_map, rngE_map, opExtract_tuple, nilV_ptr, nilV_iface, nilV_func, nilV_fp, pickV_bool, wrap64, cells_agg, cells_int, cells_bool, cells_string, cells_pointer, cells_slice, cells_map, cells_iface, cells_nilIface, cells_func, cells_float, cells_complex, cells_vs, cells_fp, one_int, one_bool, one_string, one_pointer, one_slice, one_map, one_iface, one_nilIface, one_func, one_float, one_complex, one_vs, one_fp, setFrom_nil, setFrom_cons, bd_eq, bdF_nil, bdF_cons, bs_eq, new1, new2, mm1, mm2, callX_func, callP_func, condP_true, condP_false, guardQ_true, guardQ_false, guardQ_true', guardQ_false', plain_int, plain_bool, plain_string, plain_float, plain_complex, Option.bind_some, Option.bind_none, Option.map_some, Option.map_none, List.getElem?_toArray, List.getElem?_cons_zero, List.getElem?_cons_succ, List.size_toArray, List.length_cons, List.length_nil, List.extract_toArray, List.extract_eq_take_drop, List.drop_zero, List.drop_succ_cons, List.take_succ_cons, List.take_zero, List.take_nil, List.drop_nil, List.setIfInBounds_toArray, List.set_cons_zero, List.set_cons_succ, List.toList_toArray, List.all_cons, List.all_nil, Bool.and_true, Bool.true_and, Bool.and_self, Bool.false_and, Bool.and_false, Bool.or_false, Bool.false_or, Bool.or_true, Bool.true_or, Bool.not_true, Bool.not_false, if_true, if_false, and_true, true_and, false_and, and_false, eq_self, ne_eq, not_true_eq_false, not_false_eq_true, decide_true, decide_false, Bool.false_eq_true, Bool.true_eq_false, reduceIte, Nat.zero_add, Nat.add_zero, Nat.mul_one, Nat.one_mul, Nat.zero_mul, Int.toNat_natCast, List.nil_append, List.append_nil, List.cons_append, Array.toList_empty, List.getElem?_map, ge_iff_le, gt_iff_lt, decide_eq_true_eq, bne_self_eq_false, beq_self_eq_true, Int.natCast_nonneg, Nat.lt_irrefl, Nat.le_refl]
      obtain ⟨f, a, c, rfl, hbd, hsp⟩ := hf
      -- the heap in which the walk goes on
      have next : ∀ (h3 : AH) (s' : Value), Kp h.size h h3 → h2.size ≤ h3.size → (∀ j, j < h2.size → blkOf s ≠ some j → h3.get j = h2.get j) → (blkOf s' = blkOf s ∨ ∃ k, blkOf s' = some k ∧ h2.size ≤ k ∧ k < h3.size) →
          Hld 3 1 h3 h.size s' (enI (sel now life p (us ++ [x]))) → H25_5 (.pointer (some ⟨km, 0, none⟩)) (.int .i64 now) (.func (.func f) a c) s' (.pointer (some ⟨r, 0, none⟩)) h3 Q := by
        intro h3 s' K3 hz3 hk3 hs' O'
        have hkn : blkOf s ≠ some kn := fun e => by have := O.key kn e; omega
        refine ih (us ++ [x]) h3 s' (by simp; omega) (fun y hy => ?_) ?_ K3 hr1 (by omega) ?_ ?_ O'
        · rcases List.mem_append.1 hy with h1 | h1
          · exact hu y h1
          · rw [List.mem_singleton.1 h1]; exact hx
        · rw [List.map_append]
          exact W2.mono (hk3 r (by omega) hs) (hk3 kn (by omega) hkn)
        · rcases hs' with e | ⟨k, e, hk, _⟩
          · rw [e]; exact hs
          · rw [e]; intro e2; injection e2 with e2; omega
        · rcases hs' with e | ⟨k, e, hk, hk2⟩
          · intro j hj; rw [e] at hj; have := hs2 j hj; omega
          · intro j hj; rw [e] at hj; injection hj with hj; omega
      generalize hh3 : ((h2.push (Obj.cells #[Value.complex FloatKind.f64 0 0, Value.int IntKind.i64 0, Value.map none] 74) none).put h2.size
        (some (Obj.cells #[Value.complex FloatKind.f64 x.re x.im, Value.int IntKind.i64 x.heard, Value.map (some x.kh)] 74, none))) = h3
      have hsz3 : h3.size = h2.size + 1 := by rw [← hh3]; simp
      have hg3 : ∀ j, j < h2.size → h3.get j = h2.get j := fun j hj => by rw [← hh3, get_put_ne (by omega), get_push_ne (by omega)]
      have hg3' : h3.get h2.size = some (Obj.cells #[Value.complex FloatKind.f64 x.re x.im, Value.int IntKind.i64 x.heard, Value.map (some x.kh)] 74, none) := by rw [← hh3, get_put_eq rfl]
      have K3 : Kp h.size h h3 := K2.trans ⟨by omega, fun k hk => hg3 k (by omega)⟩
      have hO3 : Hld 3 1 h3 h.size s (enI (sel now life p us)) := hO.mono fun k hk => hg3 k (by have := hs2 k hk; omega)
      by_cases hA : mom now 0 - x.heard < life
      · simp (disch := (first | omega | (simp only [beq_iff_eq, sz_push, sz_put, cells_agg, cells_int, cells_bool, cells_string, cells_pointer, cells_slice, cells_map, cells_iface, cells_nilIface, cells_func, cells_float, cells_complex, cells_vs, cells_fp, one_int, one_bool, one_string, one_pointer, one_slice, one_map, one_iface, one_nilIface, one_func, one_float, one_complex, one_vs, one_fp, List.size_toArray, List.length_cons, List.length_nil, List.all_cons, List.all_nil, Bool.and_true, Bool.true_and, Bool.and_self, Nat.zero_add, Nat.add_zero, Nat.reduceAdd, Nat.reduceLeDiff]; done) | (simp only [beq_iff_eq, ne_eq, sz_push, sz_put]; omega) | assumption | fail)) only [hA, hg3', hbd, bin_add_3, bin_eql_3, bin_eql_32_nn, bin_eql_32_an, bin_eql_37, bin_geq_3, bin_geq_37, bin_gtr_120, bin_gtr_3, bin_gtr_37, bin_leq_3, bin_leq_37, bin_lss_120, bin_lss_3, bin_lss_37, bin_mul_3, bin_neq_120, bin_neq_3, bin_neq_37, bin_neq_4, bin_rem_3, bin_sub_3, eqs_25, bin_eql_25, bin_neq_25, eqs_48, bin_eql_48, bin_neq_48, eqs_58, bin_eql_58, un_not, max_3, min_3, conv_3_120, rng_72, rng_85, hb_2, hb_3, hb_4, hb_5, hb_6, hb_7, hb_8, hb_9, hb_10, hb_11, hb_12, hb_13, hb_14, hb_15, hb_16, hb_17, hb_18, hb_19, hb_20, hb_21, hb_22, hb_23, hb_24, hb_25, hb_26, hb_27, hb_28, hb_29, hb_30, hb_31, hb_32, hb_33, hb_34, hb_35, hb_36, hb_37, hb_38, hb_39, hb_40, hb_41, hb_42, hb_43, hb_44, hb_45, hb_46, hb_47, hb_48, hb_49, hb_50, hb_51, hb_52, hb_53, hb_54, hb_55, hb_56, hb_57, hb_58, hb_59, hb_60, hb_61, hb_62, hb_63, hb_64, hb_65, hb_66, hb_67, hb_68, hb_69, hb_70, hb_71, hb_72, hb_73, hb_74, hb_75, hb_76, hb_77, hb_78, hb_79, hb_80, hb_81, hb_82, hb_83, hb_84, hb_85, hb_86, hb_87, hb_88, hb_89, hb_90, hb_91, hb_92, hb_93, hb_94, hb_95, hb_96, hb_97, hb_98, hb_99, hb_100, hb_101, hb_102, hb_103, hb_104, hb_105, hb_106, bq_some, oq_some, get_push_e, get_push_ne, get_put_e, get_put_ne, sz_push, sz_put, rowC_cells, setC_cells, ld1_ptr, ld1_fp, ldN_ptr, ldN_fp, stN_ptr, fa_ptr, fa_fp, fd1_agg, fdN_agg, ia_vs, ia_sl, iaA_ptr, iaA_fp, lenL_vs, lenL_sl, lenL_slV, lenS_s, lenM_nil, lenM_map, lenE_map, rngE_map, opExtract_tuple, nilV_ptr, nilV_iface, nilV_func, nilV_fp, pickV_bool, wrap64, cells_agg, cells_int, cells_bool, cells_string, cells_pointer, cells_slice, cells_map, cells_iface, cells_nilIface, cells_func, cells_float, cells_complex, cells_vs, cells_fp, one_int, one_bool, one_string, one_pointer, one_slice, one_map, one_iface, one_nilIface, one_func, one_float, one_complex, one_vs, one_fp, setFrom_nil, setFrom_cons, bd_eq, bdF_nil, bdF_cons, bs_eq, new1, new2, mm1, mm2, callX_func, callP_func, condP_true, condP_false, guardQ_true, guardQ_false, guardQ_true', guardQ_false', plain_int, plain_bool, plain_string, plain_float, plain_complex, Option.bind_some, Option.bind_none, Option.map_some, Option.map_none, List.getElem?_toArray, List.getElem?_cons_zero, List.getElem?_cons_succ, List.size_toArray, List.length_cons, List.length_nil, List.extract_toArray, List.extract_eq_take_drop, List.drop_zero, List.drop_succ_cons, List.take_succ_cons, List.take_zero, List.take_nil, List.drop_nil, List.setIfInBounds_toArray, List.set_cons_zero, List.set_cons_succ, List.toList_toArray, List.all_cons, List.all_nil, Bool.and_true, Bool.true_and, Bool.and_self, Bool.false_and, Bool.and_false, Bool.or_false, Bool.false_or, Bool.or_true, Bool.true_or, Bool.not_true, Bool.not_false, if_true, if_false, and_true, true_and, false_and, and_false, eq_self, ne_eq, not_true_eq_false, not_false_eq_true, decide_true, decide_false, Bool.false_eq_true, Bool.true_eq_false, reduceIte, Nat.zero_add, Nat.add_zero, Nat.mul_one, Nat.one_mul, Nat.zero_mul, Int.toNat_natCast, List.nil_append, List.append_nil, List.cons_append, Array.toList_empty, List.getElem?_map, ge_iff_le, gt_iff_lt, decide_eq_true_eq, bne_self_eq_false, beq_self_eq_true, Int.natCast_nonneg, Nat.lt_irrefl, Nat.le_refl]
        refine exP_of (hsp h3 K3 x hx) ?_
        simp (disch := (first | omega | (simp only [beq_iff_eq, sz_push, sz_put, cells_agg, cells_int, cells_bool, cells_string, cells_pointer, cells_slice, cells_map, cells_iface, cells_nilIface, cells_func, cells_float, cells_complex, cells_vs, cells_fp, one_int, one_bool, one_string, one_pointer, one_slice, one_map, one_iface, one_nilIface, one_func, one_float, one_complex, one_vs, one_fp, List.size_toArray, List.length_cons, List.length_nil, List.all_cons, List.all_nil, Bool.and_true, Bool.true_and, Bool.and_self, Nat.zero_add, Nat.add_zero, Nat.reduceAdd, Nat.reduceLeDiff]; done) | (simp only [beq_iff_eq, ne_eq, sz_push, sz_put]; omega) | assumption | fail)) only [bin_add_3, bin_eql_3, bin_eql_32_nn, bin_eql_32_an, bin_eql_37, bin_geq_3, bin_geq_37, bin_gtr_120, bin_gtr_3, bin_gtr_37, bin_leq_3, bin_leq_37, bin_lss_120, bin_lss_3, bin_lss_37, bin_mul_3, bin_neq_120, bin_neq_3, bin_neq_37, bin_neq_4, bin_rem_3, bin_sub_3, eqs_25, bin_eql_25, bin_neq_25, eqs_48, bin_eql_48, bin_neq_48, eqs_58, bin_eql_58, un_not, max_3, min_3, conv_3_120, rng_72, rng_85, hb_2, hb_3, hb_4, hb_5, hb_6, hb_7, hb_8, hb_9, hb_10, hb_11, hb_12, hb_13, hb_14, hb_15, hb_16, hb_17, hb_18, hb_19, hb_20, hb_21, hb_22, hb_23, hb_24, hb_25, hb_26, hb_27, hb_28, hb_29, hb_30, hb_31, hb_32, hb_33, hb_34, hb_35, hb_36, hb_37, hb_38, hb_39, hb_40, hb_41, hb_42, hb_43, hb_44, hb_45, hb_46, hb_47, hb_48, hb_49, hb_50, hb_51, hb_52, hb_53, hb_54, hb_55, hb_56, hb_57, hb_58, hb_59, hb_60, hb_61, hb_62, hb_63, hb_64, hb_65, hb_66, hb_67, hb_68, hb_69, hb_70, hb_71, hb_72, hb_73, hb_74, hb_75, hb_76, hb_77, hb_78, hb_79, hb_80, hb_81, hb_82, hb_83, hb_84, hb_85, hb_86, hb_87, hb_88, hb_89, hb_90, hb_91, hb_92, hb_93, hb_94, hb_95, hb_96, hb_97, hb_98, hb_99, hb_100, hb_101, hb_102, hb_103, hb_104, hb_105, hb_106, bq_some, oq_some, get_push_e, get_push_ne, get_put_e, get_put_ne, sz_push, sz_put, rowC_cells, setC_cells, ld1_ptr, ld1_fp, ldN_ptr, ldN_fp, stN_ptr, fa_ptr, fa_fp, fd1_agg, fdN_agg, ia_vs, ia_sl, iaA_ptr, iaA_fp, lenL_vs, lenL_sl, lenL_slV, lenS_s, lenM_nil, lenM_map, lenE_map, rngE_map, opExtract_tuple, nilV_ptr, nilV_iface, nilV_func, nilV_fp, pickV_bool, wrap64, cells_agg, cells_int, cells_bool, cells_string, cells_pointer, cells_slice, cells_map, cells_iface, cells_nilIface, cells_func, cells_float, cells_complex, cells_vs, cells_fp, one_int, one_bool, one_string, one_pointer, one_slice, one_map, one_iface, one_nilIface, one_func, one_float, one_complex, one_vs, one_fp, setFrom_nil, setFrom_cons, bd_eq, bdF_nil, bdF_cons, bs_eq, new1, new2, mm1, mm2, callX_func, callP_func, condP_true, condP_false, guardQ_true, guardQ_false, guardQ_true', guardQ_false', plain_int, plain_bool, plain_string, plain_float, plain_complex, Option.bind_some, Option.bind_none, Option.map_some, Option.map_none, List.getElem?_toArray, List.getElem?_cons_zero, List.getElem?_cons_succ, List.size_toArray, List.length_cons, List.length_nil, List.extract_toArray, List.extract_eq_take_drop, List.drop_zero, List.drop_succ_cons, List.take_succ_cons, List.take_zero, List.take_nil, List.drop_nil, List.setIfInBounds_toArray, List.set_cons_zero, List.set_cons_succ, List.toList_toArray, List.all_cons, List.all_nil, Bool.and_true, Bool.true_and, Bool.and_self, Bool.false_and, Bool.and_false, Bool.or_false, Bool.false_or, Bool.or_true, Bool.true_or, Bool.not_true, Bool.not_false, if_true, if_false, and_true, true_and, false_and, and_false, eq_self, ne_eq, not_true_eq_false, not_false_eq_true, decide_true, decide_false, Bool.false_eq_true, Bool.true_eq_false, reduceIte, Nat.zero_add, Nat.add_zero, Nat.mul_one, Nat.one_mul, Nat.zero_mul, Int.toNat_natCast, List.nil_append, List.append_nil, List.cons_append, Array.toList_empty, List.getElem?_map, ge_iff_le, gt_iff_lt, decide_eq_true_eq, bne_self_eq_false, beq_self_eq_true, Int.natCast_nonneg, Nat.lt_irrefl, Nat.le_refl]
        refine condP_iff (fun hp => ?_) (fun hp => ?_)
        · have hsl : (sel now life p us).length ≤ 1048576 := by
            unfold sel
            rw [List.length_map]
            have := List.length_filter_le (wanted now life p) us
            omega
          obtain ⟨s', h4, a1, a2, a3, a4, a5⟩ := hO3.append1 (c := #[.int .i64 x.n]) (v := .int .i64 x.n) (bytes := 8) (zero := .int .i64 0) rfl (fun k hk => by have := hs2 k hk; omega) (by omega) (enI_cells _) rfl (by simp [one_int]) (by omega) (by omega) (by omega) rfl (by simp [enI]; omega)
          refine bq_of a1 (next h4 s' (K3.trans ⟨a3, fun k hk => a4 k (by omega) fun e => by have := O.key k e; omega⟩) (by omega) (fun j hj hne => (a4 j (by omega) hne).trans (hg3 j hj)) ?_ ?_)
          · rcases a5 with e | ⟨k, e, e1, e2⟩
            · exact .inl e
            · exact .inr ⟨k, e, by omega, e2⟩
          · rw [sel_app]
            simp only [wanted, hA, decide_true, Bool.true_and, hp, if_true]
            simpa [enI] using a2
        · refine next h3 s K3 (by omega) (fun j hj _ => hg3 j hj) (.inl rfl) ?_
          rw [sel_app]
          simpa [wanted, hp] using hO3
      · simp (disch := (first | omega | (simp only [beq_iff_eq, sz_push, sz_put, cells_agg, cells_int, cells_bool, cells_string, cells_pointer, cells_slice, cells_map, cells_iface, cells_nilIface, cells_func, cells_float, cells_complex, cells_vs, cells_fp, one_int, one_bool, one_string, one_pointer, one_slice, one_map, one_iface, one_nilIface, one_func, one_float, one_complex, one_vs, one_fp, List.size_toArray, List.length_cons, List.length_nil, List.all_cons, List.all_nil, Bool.and_true, Bool.true_and, Bool.and_self, Nat.zero_add, Nat.add_zero, Nat.reduceAdd, Nat.reduceLeDiff]; done) | (simp only [beq_iff_eq, ne_eq, sz_push, sz_put]; omega) | assumption | fail)) only [hA, bin_add_3, bin_eql_3, bin_eql_32_nn, bin_eql_32_an, bin_eql_37, bin_geq_3, bin_geq_37, bin_gtr_120, bin_gtr_3, bin_gtr_37, bin_leq_3, bin_leq_37, bin_lss_120, bin_lss_3, bin_lss_37, bin_mul_3, bin_neq_120, bin_neq_3, bin_neq_37, bin_neq_4, bin_rem_3, bin_sub_3, eqs_25, bin_eql_25, bin_neq_25, eqs_48, bin_eql_48, bin_neq_48, eqs_58, bin_eql_58, un_not, max_3, min_3, conv_3_120, rng_72, rng_85, hb_2, hb_3, hb_4, hb_5, hb_6, hb_7, hb_8, hb_9, hb_10, hb_11, hb_12, hb_13, hb_14, hb_15, hb_16, hb_17, hb_18, hb_19, hb_20, hb_21, hb_22, hb_23, hb_24, hb_25, hb_26, hb_27, hb_28, hb_29, hb_30, hb_31, hb_32, hb_33, hb_34, hb_35, hb_36, hb_37, hb_38, hb_39, hb_40, hb_41, hb_42, hb_43, hb_44, hb_45, hb_46, hb_47, hb_48, hb_49, hb_50, hb_51, hb_52, hb_53, hb_54, hb_55, hb_56, hb_57, hb_58, hb_59, hb_60, hb_61, hb_62, hb_63, hb_64, hb_65, hb_66, hb_67, hb_68, hb_69, hb_70, hb_71, hb_72, hb_73, hb_74, hb_75, hb_76, hb_77, hb_78, hb_79, hb_80, hb_81, hb_82, hb_83, hb_84, hb_85, hb_86, hb_87, hb_88, hb_89, hb_90, hb_91, hb_92, hb_93, hb_94, hb_95, hb_96, hb_97, hb_98, hb_99, hb_100, hb_101, hb_102, hb_103, hb_104, hb_105, hb_106, bq_some, oq_some, get_push_e, get_push_ne, get_put_e, get_put_ne, sz_push, sz_put, rowC_cells, setC_cells, ld1_ptr, ld1_fp, ldN_ptr, ldN_fp, stN_ptr, fa_ptr, fa_fp, fd1_agg, fdN_agg, ia_vs, ia_sl, iaA_ptr, iaA_fp, lenL_vs, lenL_sl, lenL_slV, lenS_s, lenM_nil, lenM_map, lenE_map, rngE_map, opExtract_tuple, nilV_ptr, nilV_iface, nilV_func, nilV_fp, pickV_bool, wrap64, cells_agg, cells_int, cells_bool, cells_string, cells_pointer, cells_slice, cells_map, cells_iface, cells_nilIface, cells_func, cells_float, cells_complex, cells_vs, cells_fp, one_int, one_bool, one_string, one_pointer, one_slice, one_map, one_iface, one_nilIface, one_func, one_float, one_complex, one_vs, one_fp, setFrom_nil, setFrom_cons, bd_eq, bdF_nil, bdF_cons, bs_eq, new1, new2, mm1, mm2, callX_func, callP_func, condP_true, condP_false, guardQ_true, guardQ_false, guardQ_true', guardQ_false', plain_int, plain_bool, plain_string, plain_float, plain_complex, Option.bind_some, Option.bind_none, Option.map_some, Option.map_none, List.getElem?_toArray, List.getElem?_cons_zero, List.getElem?_cons_succ, List.size_toArray, List.length_cons, List.length_nil, List.extract_toArray, List.extract_eq_take_drop, List.drop_zero, List.drop_succ_cons, List.take_succ_cons, List.take_zero, List.take_nil, List.drop_nil, List.setIfInBounds_toArray, List.set_cons_zero, List.set_cons_succ, List.toList_toArray, List.all_cons, List.all_nil, Bool.and_true, Bool.true_and, Bool.and_self, Bool.false_and, Bool.and_false, Bool.or_false, Bool.false_or, Bool.or_true, Bool.true_or, Bool.not_true, Bool.not_false, if_true, if_false, and_true, true_and, false_and, and_false, eq_self, ne_eq, not_true_eq_false, not_false_eq_true, decide_true, decide_false, Bool.false_eq_true, Bool.true_eq_false, reduceIte, Nat.zero_add, Nat.add_zero, Nat.mul_one, Nat.one_mul, Nat.zero_mul, Int.toNat_natCast, List.nil_append, List.append_nil, List.cons_append, Array.toList_empty, List.getElem?_map, ge_iff_le, gt_iff_lt, decide_eq_true_eq, bne_self_eq_false, beq_self_eq_true, Int.natCast_nonneg, Nat.lt_irrefl, Nat.le_refl]
        refine next h3 s K3 (by omega) (fun j hj _ => hg3 j hj) (.inl rfl) ?_
        rw [sel_app]
        simpa [wanted, hA] using hO3

theorem srt_perm {a b : List Int} (h : a.Perm b) : srt a = srt b := by
  have key : ∀ l : List Int, (srt l).Pairwise fun x y => x ≤ y := fun l => by
    have := List.pairwise_mergeSort (le := fun x y : Int => decide (x ≤ y)) (fun a b c h1 h2 => by simp at *; omega) (fun a b => by simp; omega) l
    exact this.imp fun h => by simpa using h
  refine List.Perm.eq_of_pairwise (le := fun x y => x ≤ y) (fun x y _ _ h1 h2 => by omega) (key a) (key b) ?_
  exact (List.mergeSort_perm _ _).trans (h.trans (List.mergeSort_perm _ _).symm)

theorem those_ok {h : AH} {km kn : Nat} {rep life now : Int} {ns : List Nd} {fv : Value} {p : Nd → Bool} (M : Mgr h km kn rep life ns) (hf : OkSpec h ns fv p) (hb : ns.length ≤ 1048576) :
    Ex Try.prog 25 [.pointer (some ⟨km, 0, none⟩), .int .i64 now, fv].toArray h (slV (enI (srt (sel now life p ns)))) h := by
  refine Ex.own (e := 3) (z := 1) (by omega) (enI_cells _) (fun v hv => ?_) (X25_ok ?_)
  · rw [flat_enI] at hv
    obtain ⟨x, _, rfl⟩ := List.mem_map.1 hv
    exact .int _ _
  · unfold X25
    have hlt := M.lt
    obtain ⟨clk, hn, hc⟩ := M.n
    have g1 := M.m
    simp (disch := (first | omega | (simp only [beq_iff_eq, sz_push, sz_put, cells_agg, cells_int, cells_bool, cells_string, cells_pointer, cells_slice, cells_map, cells_iface, cells_nilIface, cells_func, cells_float, cells_complex, cells_vs, cells_fp, one_int, one_bool, one_string, one_pointer, one_slice, one_map, one_iface, one_nilIface, one_func, one_float, one_complex, one_vs, one_fp, List.size_toArray, List.length_cons, List.length_nil, List.all_cons, List.all_nil, Bool.and_true, Bool.true_and, Bool.and_self, Nat.zero_add, Nat.add_zero, Nat.reduceAdd, Nat.reduceLeDiff]; done) | (simp only [beq_iff_eq, ne_eq, sz_push, sz_put]; omega) | assumption | fail)) only [g1, hn, bin_add_3, bin_eql_3, bin_eql_32_nn, bin_eql_32_an, bin_eql_37, bin_geq_3, bin_geq_37, bin_gtr_120, bin_gtr_3, bin_gtr_37, bin_leq_3, bin_leq_37, bin_lss_120, bin_lss_3, bin_lss_37, bin_mul_3, bin_neq_120, bin_neq_3, bin_neq_37, bin_neq_4, bin_rem_3, bin_sub_3, eqs_25, bin_eql_25, bin_neq_25, eqs_48, bin_eql_48, bin_neq_48, eqs_58, bin_eql_58, un_not, max_3, min_3, conv_3_120, rng_72, rng_85, hb_2, hb_3, hb_4, hb_5, hb_6, hb_7, hb_8, hb_9, hb_10, hb_11, hb_12, hb_13, hb_14, hb_15, hb_16, hb_17, hb_18, hb_19, hb_20, hb_21, hb_22, hb_23, hb_24, hb_25, hb_26, hb_27, hb_28, hb_29, hb_30, hb_31, hb_32, hb_33, hb_34, hb_35, hb_36, hb_37, hb_38, hb_39, hb_40, hb_41, hb_42, hb_43, hb_44, hb_45, hb_46, hb_47, hb_48, hb_49, hb_50, hb_51, hb_52, hb_53, hb_54, hb_55, hb_56, hb_57, hb_58, hb_59, hb_60, hb_61, hb_62, hb_63, hb_64, hb_65, hb_66, hb_67, hb_68, hb_69, hb_70, hb_71, hb_72, hb_73, hb_74, hb_75, hb_76, hb_77, hb_78, hb_79, hb_80, hb_81, hb_82, hb_83, hb_84, hb_85, hb_86, hb_87, hb_88, hb_89, hb_90, hb_91, hb_92, hb_93, hb_94, hb_95, hb_96, hb_97, hb_98, hb_99, hb_100, hb_101, hb_102, hb_103, hb_104, hb_105, hb_106, bq_some, oq_some, get_push_e, get_push_ne, get_put_e, get_put_ne, sz_push, sz_put, rowC_cells, setC_cells, ld1_ptr, ld1_fp, ldN_ptr, ldN_fp, stN_ptr, fa_ptr, fa_fp, fd1_agg, fdN_agg, ia_vs, ia_sl, iaA_ptr, iaA_fp, lenL_vs, lenL_sl, lenL_slV, lenS_s, lenM_nil, lenM_map, lenE_map, rngE_map, opExtract_tuple, nilV_ptr, nilV_iface, nilV_func, nilV_fp, pickV_bool, wrap64, cells_agg, cells_int, cells_bool, cells_string, cells_pointer, cells_slice, cells_map, cells_iface, cells_nilIface, cells_func, cells_float, cells_complex, cells_vs, cells_fp, one_int, one_bool, one_string, one_pointer, one_slice, one_map, one_iface, one_nilIface, one_func, one_float, one_complex, one_vs, one_fp, setFrom_nil, setFrom_cons, bd_eq, bdF_nil, bdF_cons, bs_eq, new1, new2, mm1, mm2, callX_func, callP_func, condP_true, condP_false, guardQ_true, guardQ_false, guardQ_true', guardQ_false', plain_int, plain_bool, plain_string, plain_float, plain_complex, Option.bind_some, Option.bind_none, Option.map_some, Option.map_none, List.getElem?_toArray, List.getElem?_cons_zero, List.getElem?_cons_succ, List.size_toArray, List.length_cons, List.length_nil, List.extract_toArray, List.extract_eq_take_drop, List.drop_zero, List.drop_succ_cons, List.take_succ_cons, List.take_zero, List.take_nil, List.drop_nil, List.setIfInBounds_toArray, List.set_cons_zero, List.set_cons_succ, List.toList_toArray, List.all_cons, List.all_nil, Bool.and_true, Bool.true_and, Bool.and_self, Bool.false_and, Bool.and_false, Bool.or_false, Bool.false_or, Bool.or_true, Bool.true_or, Bool.not_true, Bool.not_false, if_true, if_false, and_true, true_and, false_and, and_false, eq_self, ne_eq, not_true_eq_false, not_false_eq_true, decide_true, decide_false, Bool.false_eq_true, Bool.true_eq_false, reduceIte, Nat.zero_add, Nat.add_zero, Nat.mul_one, Nat.one_mul, Nat.zero_mul, Int.toNat_natCast, List.nil_append, List.append_nil, List.cons_append, Array.toList_empty, List.getElem?_map, ge_iff_le, gt_iff_lt, decide_eq_true_eq, bne_self_eq_false, beq_self_eq_true, Int.natCast_nonneg, Nat.lt_irrefl, Nat.le_refl]
    refine those_loop M hf hb (r := h.size) (fun h' s us hp K O => ⟨s, rfl, ?_, K⟩) (ns.length + 1) [] _ _ (by simp) (fun x hx => by cases hx) ?_ ((Kp.refl _ _).push _ _ (Nat.le_refl _)) (Nat.le_refl _) (by simp) (by simp [blkOf]) (by simp [blkOf]) .nil
    · refine Walk.start hn hlt.2 (fun e he => ?_) ?_
      · obtain ⟨x, hx, rfl⟩ := List.mem_map.1 (by simpa using he : e ∈ ns.map Nd.ent)
        exact hc x hx
      · simpa [Function.comp_def, Nd.ent] using M.born
    · have e : srt (sel now life p us) = srt (sel now life p ns) := srt_perm ((hp.filter _).map _)
      rw [e] at O
      exact O

theorem those_nil (now : Int) (fv : Value) (h : AH) : Ex Try.prog 25 [.pointer none, .int .i64 now, fv].toArray h (.slice none 0 0) h := by
  refine X25_ok ?_
  unfold X25
  simp (disch := (first | omega | (simp only [beq_iff_eq, sz_push, sz_put, cells_agg, cells_int, cells_bool, cells_string, cells_pointer, cells_slice, cells_map, cells_iface, cells_nilIface, cells_func, cells_float, cells_complex, cells_vs, cells_fp, one_int, one_bool, one_string, one_pointer, one_slice, one_map, one_iface, one_nilIface, one_func, one_float, one_complex, one_vs, one_fp, List.size_toArray, List.length_cons, List.length_nil, List.all_cons, List.all_nil, Bool.and_true, Bool.true_and, Bool.and_self, Nat.zero_add, Nat.add_zero, Nat.reduceAdd, Nat.reduceLeDiff]; done) | (simp only [beq_iff_eq, ne_eq, sz_push, sz_put]; omega) | assumption | fail)) only [bin_add_3, bin_eql_3, bin_eql_32_nn, bin_eql_32_an, bin_eql_37, bin_geq_3, bin_geq_37, bin_gtr_120, bin_gtr_3, bin_gtr_37, bin_leq_3, bin_leq_37, bin_lss_120, bin_lss_3, bin_lss_37, bin_mul_3, bin_neq_120, bin_neq_3, bin_neq_37, bin_neq_4, bin_rem_3, bin_sub_3, eqs_25, bin_eql_25, bin_neq_25, eqs_48, bin_eql_48, bin_neq_48, eqs_58, bin_eql_58, un_not, max_3, min_3, conv_3_120, rng_72, rng_85, hb_2, hb_3, hb_4, hb_5, hb_6, hb_7, hb_8, hb_9, hb_10, hb_11, hb_12, hb_13, hb_14, hb_15, hb_16, hb_17, hb_18, hb_19, hb_20, hb_21, hb_22, hb_23, hb_24, hb_25, hb_26, hb_27, hb_28, hb_29, hb_30, hb_31, hb_32, hb_33, hb_34, hb_35, hb_36, hb_37, hb_38, hb_39, hb_40, hb_41, hb_42, hb_43, hb_44, hb_45, hb_46, hb_47, hb_48, hb_49, hb_50, hb_51, hb_52, hb_53, hb_54, hb_55, hb_56, hb_57, hb_58, hb_59, hb_60, hb_61, hb_62, hb_63, hb_64, hb_65, hb_66, hb_67, hb_68, hb_69, hb_70, hb_71, hb_72, hb_73, hb_74, hb_75, hb_76, hb_77, hb_78, hb_79, hb_80, hb_81, hb_82, hb_83, hb_84, hb_85, hb_86, hb_87, hb_88, hb_89, hb_90, hb_91, hb_92, hb_93, hb_94, hb_95, hb_96, hb_97, hb_98, hb_99, hb_100, hb_101, hb_102, hb_103, hb_104, hb_105, hb_106, bq_some, oq_some, get_push_e, get_push_ne, get_put_e, get_put_ne, sz_push, sz_put, rowC_cells, setC_cells, ld1_ptr, ld1_fp, ldN_ptr, ldN_fp, stN_ptr, fa_ptr, fa_fp, fd1_agg, fdN_agg, ia_vs, ia_sl, iaA_ptr, iaA_fp, lenL_vs, lenL_sl, lenL_slV, lenS_s, lenM_nil, lenM_map, lenE_map, rngE_map, opExtract_tuple, nilV_ptr, nilV_iface, nilV_func, nilV_fp, pickV_bool, wrap64, cells_agg, cells_int, cells_bool, cells_string, cells_pointer, cells_slice, cells_map, cells_iface, cells_nilIface, cells_func, cells_float, cells_complex, cells_vs, cells_fp, one_int, one_bool, one_string, one_pointer, one_slice, one_map, one_iface, one_nilIface, one_func, one_float, one_complex, one_vs, one_fp, setFrom_nil, setFrom_cons, bd_eq, bdF_nil, bdF_cons, bs_eq, new1, new2, mm1, mm2, callX_func, callP_func, condP_true, condP_false, guardQ_true, guardQ_false, guardQ_true', guardQ_false', plain_int, plain_bool, plain_string, plain_float, plain_complex, Option.bind_some, Option.bind_none, Option.map_some, Option.map_none, List.getElem?_toArray, List.getElem?_cons_zero, List.getElem?_cons_succ, List.size_toArray, List.length_cons, List.length_nil, List.extract_toArray, List.extract_eq_take_drop, List.drop_zero, List.drop_succ_cons, List.take_succ_cons, List.take_zero, List.take_nil, List.drop_nil, List.setIfInBounds_toArray, List.set_cons_zero, List.set_cons_succ, List.toList_toArray, List.all_cons, List.all_nil, Bool.and_true, Bool.true_and, Bool.and_self, Bool.false_and, Bool.and_false, Bool.or_false, Bool.false_or, Bool.or_true, Bool.true_or, Bool.not_true, Bool.not_false, if_true, if_false, and_true, true_and, false_and, and_false, eq_self, ne_eq, not_true_eq_false, not_false_eq_true, decide_true, decide_false, Bool.false_eq_true, Bool.true_eq_false, reduceIte, Nat.zero_add, Nat.add_zero, Nat.mul_one, Nat.one_mul, Nat.zero_mul, Int.toNat_natCast, List.nil_append, List.append_nil, List.cons_append, Array.toList_empty, List.getElem?_map, ge_iff_le, gt_iff_lt, decide_eq_true_eq, bne_self_eq_false, beq_self_eq_true, Int.natCast_nonneg, Nat.lt_irrefl, Nat.le_refl]
  first | done | rfl | exact ⟨rfl, rfl⟩ | trivial
end Go.Proofs.Ythjdohbkadpnjaa.B
