/- The engine, part 15: a builder of text. Names of functions and types; what the resolved codes lean on. Printed by program. -/
import Derived.Lib.OthersKept
import Derived.Test.YtfeifodeaphbjaaGreatChecked
import Derived.KernelRfl
import Derived.Test.YtfeifodeaphbjaaGreatH12
set_option linter.unusedVariables false
set_option linter.unusedSimpArgs false
section
namespace Go.K
open Go
theorem Ext.of_below {w w' : World} (h : RowKit.Below w.heap.size w w') : Ext w w' := ⟨h.os, h.tape, h.output, h.size, fun b hb _ => h.block b hb⟩
/-- What a builder's writing leaves: all below B; and all rows of other kinds. -/
structure Wr (e : TypeId) (B b : Nat) (w w' : World) : Prop where
  low : RowKit.Below B w w'
  oth : Lib.OthersKept e (some b) w w'
theorem Wr.refl (e : TypeId) (B b : Nat) (w : World) : Wr e B b w w := ⟨RowKit.Below.refl _ _, Lib.OthersKept.refl _ _ _⟩
theorem Wr.trans {e : TypeId} {B b : Nat} {w w1 w2 : World} (h : Wr e B b w w1) (h' : Wr e B b w1 w2) : Wr e B b w w2 := ⟨h.low.trans h'.low, h.oth.trans h'.oth⟩
theorem Wr.of_ext {e : TypeId} {B b : Nat} {w w' : World} (h : Ext w w') (hB : B ≤ w.heap.size) : Wr e B b w w' :=
  ⟨⟨Chg.os h, Chg.tape h, Chg.output h, Chg.size h, fun k hk => Chg.block h k (by omega) (by simp)⟩, fun k o hk _ _ => by
    have hlt : k < w.heap.size := (Array.getElem?_eq_some_iff.1 hk).1
    exact (Chg.block h k hlt (by simp)).trans hk⟩
theorem Wr.size {e : TypeId} {B b : Nat} {w w' : World} (h : Wr e B b w w') : w.heap.size ≤ w'.heap.size := h.low.size
/-- From a world w0 that had not yet what is at B: nothing has turned. -/
theorem Wr.ext {e : TypeId} {B b : Nat} {w0 w w' : World} (h : Wr e B b w w') (x : Ext w0 w) (hB : w0.heap.size ≤ B) : Ext w0 w' :=
  ⟨h.low.os.trans (Chg.os x), h.low.tape.trans (Chg.tape x), h.low.output.trans (Chg.output x), Nat.le_trans (Chg.size x) h.low.size, fun k hk hn => (h.low.block k (by omega)).trans (Chg.block x k hk hn)⟩
theorem At.wr {e t : TypeId} {B b k : Nat} {w w' : World} {cs : Array Value} {f : Nat × Nat} (h : Wr e B b w w') (ha : At w k (.cells cs t f)) (hk : k ≠ b) (ht : t ≠ e) : At w' k (.cells cs t f) :=
  h.oth k _ ha (by simpa using hk) (by intro c fz hc; injection hc with _ h2 _; exact ht h2)
/-- Block b is a builder that holds s. -/
def Bld (T e : TypeId) (B b : Nat) (s : ByteArray) (w : World) : Prop := B ≤ w.heap.size ∧ Lib.IsBuilderF T e B b (Lib.byteCells s.data.toList) w
theorem Bld.new {T e : TypeId} {B b : Nat} {w : World} (hB : B ≤ b) (h : At w b (.cells [Value.pointer none, Value.slice none 0 0].toArray T (0, 0))) : Bld T e B b ⟨#[]⟩ w := by
  refine ⟨by have := h.lt; omega, .inl ⟨hB, _, h, World.ownsRowF_nil w B e 1, by simp [Value.ownBlock]⟩⟩
theorem Bld.ext {T e : TypeId} {B b : Nat} {s : ByteArray} {w w' : World} (h : Bld T e B b s w) (x : Ext w w') : Bld T e B b s w' := by
  have key : ∀ p, Lib.BuilderAtF T e B b p (Lib.byteCells s.data.toList) w → Lib.BuilderAtF T e B b p (Lib.byteCells s.data.toList) w' := by
    rintro p ⟨hB, v, hb, ho, hn⟩
    refine ⟨hB, v, At.ext x hb, ?_, hn⟩
    obtain ⟨h1, h2⟩ := ho
    refine ⟨h1, ?_⟩
    rcases h2 with h2 | ⟨g, cap, cur, fz, hv, hg, hh, r⟩
    · exact .inl h2
    · exact .inr ⟨g, cap, cur, fz, hv, hg, At.ext x hh, r⟩
  refine ⟨Nat.le_trans h.1 x.size, ?_⟩
  rcases h.2 with h | h
  · exact .inl (key _ h)
  · exact .inr (key _ h)
theorem Bld.lt {T e : TypeId} {B b : Nat} {s : ByteArray} {w : World} (h : Bld T e B b s w) : b < w.heap.size := by
  rcases h.2 with ⟨_, v, hb, _⟩ | ⟨_, v, hb, _⟩
  · exact At.lt hb
  · exact At.lt hb
theorem Bld.x {T e : TypeId} {B b : Nat} {s : ByteArray} {w w' : World} (c : Ext w w') (h : Bld T e B b s w) : Bld T e B b s w' := h.ext c
theorem byteCells_append (a b : ByteArray) : Lib.byteCells a.data.toList ++ Lib.strCells b = Lib.byteCells (a ++ b).data.toList := by
  simp [Lib.byteCells, Lib.strCells, ByteArray.data_append]
/-! m[k]++ -/
section
variable {κ β : Type} [DecidableEq κ] {E : KEnc κ} {fv : β → Value} {P : Program} {d : Option Tmp} {r : KR} {K : Env → World → Prop} {ρ : Env} {w : World}
theorem pend_map {b i clock : Nat} {es : Array MapEntry} {l : List (κ × β)} {k : κ} {v0 : β} (h : At w b (.map es clock)) (hwf : Wf es clock) (hi : i < es.size) (hv : es[i].val = fv v0)
    (hall : ∀ v : β, (es.modify i fun e => { e with val := fv v }).toList.map (fun e => (e.key, e.val)) = (aset l k v).map (fun p => (E.f p.1, fv p.2))) (hn : (l.map (·.1)).Nodup) : MapE E fv w b (aset l k v0) := by
  refine ⟨es, clock, h, hwf, ?_, aset_keys hn⟩
  rw [← hall v0]
  congr 2
  apply Array.ext
  · simp
  · intro j h1 h2
    rw [Array.getElem_modify]
    split
    · rename_i e; subst e
      generalize es[i] = q at hv
      cases q; simp only at hv; simp [hv]
    · rfl
/-- A place for k: as it stands there is a map, too. -/
theorem st_mapEntryZ {s : Bool} {ks : List CK} {z : Value} {m x : Operand} {b : Nat} {l : List (κ × β)} {k : κ} (z0 : β) (hz : z = fv z0) (hm : ev ρ m = .map (some b)) (hx : ev ρ x = E.f k) (hM : MapE E fv w b l) (hs : s = E.s) (hks : ks = E.ks)
    (kk : ∀ (st : Nat) w', Chg [b] w w' → MapPend E fv w' b l k st → MapE E fv w' b (aset l k ((aget l k).getD z0)) → regK P r K (put ρ d (.tuple #[fv ((aget l k).getD z0), .int .i64 (st : Int)])) w') : regK P (.cons ⟨d, .mapEntry s ks z m x, none⟩ r) K ρ w := by
  subst hs hks hz
  obtain ⟨es, clock, hat, hwf, heq, hn⟩ := hM
  have hf := findK_enc (E := E) (fv := fv) k es.toList l 0 heq
  have hlen : es.size = l.length := by have := congrArg List.length heq; simpa using this
  refine st_wp ⟨b, es, clock, _, hm, hat, by rw [hx]; exact E.ok k, by rw [hx]; exact hf, ?_⟩
  cases h : (l.findIdx? fun p => decide (p.1 = k)) with
  | none =>
    have hg : aget l k = none := by rw [aget_idx, h]; rfl
    rw [hg] at kk
    simp only [Option.bind_none]
    rw [hx]
    have P1 := hat.setObj (o' := .map (es.push { key := E.f k, val := fv z0, born := clock }) (clock + 1))
    have P2 := wf_push hwf (E.f k) (fv z0)
    have P3 : ∀ v : β, ((es.push { key := E.f k, val := fv z0, born := clock }).modify es.size fun e => { e with val := fv v }).toList.map (fun e => (e.key, e.val)) = (aset l k v).map (fun p => (E.f p.1, fv p.2)) := by
      intro v
      rw [aset_absent h, List.map_append, ← heq]
      apply List.ext_getElem
      · simp
      · intro i h1 h2
        have h3 : i < es.size + 1 := by simpa using h1
        simp only [List.getElem_map, Array.getElem_toList, Array.getElem_modify, List.getElem_append, List.length_map, Array.length_toList]
        by_cases hi : i < es.size
        · rw [dif_pos hi]
          have hne : ¬ (es.size = i) := by omega
          simp [hne, Array.getElem_push_lt hi]
        · have : i = es.size := by omega
          subst this
          simp
    exact kk clock _ (Chg.setObj _ _ _) ⟨_, _, es.size, P1, P2, ⟨by simp, by simp⟩, P3, hn⟩ (pend_map P1 P2 (by simp) (by simp) P3 hn)
  | some j =>
    obtain ⟨hj, hk, _⟩ := List.findIdx?_eq_some_iff_getElem.1 h
    have hjs : j < es.size := by omega
    have hg : aget l k = some l[j].2 := by rw [aget_idx, h]; simp [List.getElem?_eq_getElem hj]
    rw [hg] at kk
    simp only [Option.bind_some, List.getElem?_eq_getElem hj, Option.map_some, Nat.zero_add]
    rw [hx]
    have e1 : (((es[j]?).map (·.born)).getD 0) = es[j].born := by simp [Array.getElem?_eq_getElem hjs]
    rw [e1]
    have P1 := hat.setObj (o' := .map (es.modify j fun e => { e with key := E.f k }) clock)
    have P2 := wf_modify hwf j (fun e => { e with key := E.f k }) (fun _ => rfl)
    have h6 : (es.toList.map (fun e => (e.key, e.val)))[j]'(by simpa using hjs) = (l.map (fun p => (E.f p.1, fv p.2)))[j]'(by simpa using hj) := by simp only [heq]
    simp only [List.getElem_map, Array.getElem_toList, Prod.mk.injEq] at h6
    have P3 : ∀ v : β, ((es.modify j fun e => { e with key := E.f k }).modify j fun e => { e with val := fv v }).toList.map (fun e => (e.key, e.val)) = (aset l k v).map (fun p => (E.f p.1, fv p.2)) := by
      intro v
      rw [aset_present h]
      apply List.ext_getElem
      · simpa using hlen
      · intro i h1 h2
        have h3 : i < es.toList.length := by simpa using h1
        have h4 : i < l.length := by simpa using h2
        have h5 : (es.toList.map (fun e => (e.key, e.val)))[i]'(by simpa using h3) = (l.map (fun p => (E.f p.1, fv p.2)))[i]'(by simpa using h4) := by simp only [heq]
        simp only [List.getElem_map] at h5
        simp only [List.getElem_map, Array.getElem_toList, Array.getElem_modify, List.getElem_set] at h5 ⊢
        split
        · rfl
        · exact h5
    exact kk es[j].born _ (Chg.setObj _ _ _) ⟨_, _, j, P1, P2, ⟨by simpa using hjs, by rw [Array.getElem_modify, if_pos rfl]⟩, P3, hn⟩ (pend_map P1 P2 (by simpa using hjs) (by rw [Array.getElem_modify, if_pos rfl]; exact h6.2) P3 hn)
theorem aget_set (l : List (κ × β)) (k : κ) (v : β) (k' : κ) : aget (aset l k v) k' = if k = k' then some v else aget l k' := by
  induction l with
  | nil => unfold aset aget; by_cases h : k = k' <;> simp [h]
  | cons p l ih =>
    unfold aset
    by_cases h : p.1 = k
    · rw [if_pos h]
      have e : ∀ q : κ × β, aget (q :: l) k' = if q.1 = k' then some q.2 else aget l k' := by intro q; unfold aget; rw [List.find?_cons]; by_cases h : q.1 = k' <;> simp [h]
      rw [e, e]
      by_cases h2 : k = k'
      · simp [h2]
      · rw [if_neg h2, if_neg h2, if_neg (by rw [h]; exact h2)]
    · rw [if_neg h]
      have e : ∀ (q : κ × β) (m : List (κ × β)), aget (q :: m) k' = if q.1 = k' then some q.2 else aget m k' := by intro q m; unfold aget; rw [List.find?_cons]; by_cases h : q.1 = k' <;> simp [h]
      rw [e, e, ih]
      by_cases h2 : p.1 = k'
      · rw [if_pos h2, if_pos h2, if_neg (by rw [← h2]; exact fun e => h e.symm)]
      · rw [if_neg h2, if_neg h2]
end
end Go.K
end
section
namespace Go.Proofs.YtfeifodeaphbjaaGreat
open Go Go.K
theorem mixed : Tryz.prog.follows .mixedOrders = true := by kernel_rfl
@[reducible] def t (n : Nat) : Operand := .tmp n
def bodyOf (f : Func) : Code := f.body.getD .skip
namespace F
abbrev main_main : Nat := 0
abbrev gosem_cut : Nat := 1
abbrev gosem_cut_init : Nat := 2
abbrev kedgelaw14_GraphPlays : Nat := 3
abbrev kedgelaw14_GraphBoth : Nat := 4
abbrev kedgelaw15_LimitFits : Nat := 5
abbrev kedgelaw15_LimitAll : Nat := 6
abbrev kedgelaw15_LimitCarves : Nat := 7
abbrev kedgelaw14_GraphHangs : Nat := 8
abbrev kedgelaw14_GraphAgain : Nat := 9
abbrev kedgelaw15_LimitKeeps : Nat := 10
abbrev kedgelaw15_LimitLess : Nat := 11
abbrev kedgelaw14_GraphCopy : Nat := 12
abbrev graph_New : Nat := 13
abbrev graph_Graph_Drop : Nat := 14
abbrev kedgeref14_Drop : Nat := 15
abbrev kedgelaw14_of : Nat := 16
abbrev graph_Graph_Add : Nat := 17
abbrev kedgeref14_Add : Nat := 18
abbrev kedgelaw14_same : Nat := 19
abbrev kedgeref14_Find : Nat := 20
abbrev graph_Graph_Get : Nat := 21
abbrev graph_Graph_Spender : Nat := 22
abbrev kedgeref14_Spender : Nat := 23
abbrev graph_Graph_Out : Nat := 24
abbrev kedgelaw14_wakes : Nat := 25
abbrev kedgelaw14_filled : Nat := 26
abbrev graph_Graph_All : Nat := 27
abbrev graph_Graph_Above : Nat := 28
abbrev slices_Contains_L_string_string : Nat := 29
abbrev graph_Graph_Below : Nat := 30
abbrev kedgelaw15_built : Nat := 31
abbrev kedgeref14_Make : Nat := 32
abbrev limit_Fits : Nat := 33
abbrev kedgeref15_Fits : Nat := 34
abbrev kedgelaw15_wakes : Nat := 35
abbrev kedgeref05_Cut : Nat := 36
abbrev kedgeref05_ID : Nat := 37
abbrev kedgeref07_ID : Nat := 38
abbrev kedgelaw15_next : Nat := 39
abbrev graph_Graph_Sum : Nat := 40
abbrev kedgeref14_Above : Nat := 41
abbrev kedgeref14_Sum : Nat := 42
abbrev slices_Equal_L_string_string : Nat := 43
abbrev kedgeref14_IDs : Nat := 44
abbrev kedgeref14_Below : Nat := 45
abbrev kedgeref14_Hangs : Nat := 46
abbrev graph_Graph_Copy : Nat := 47
abbrev slices_DeleteFunc_L_string_string : Nat := 48
abbrev graph_Graph_Drop_1 : Nat := 49
abbrev graph_entry : Nat := 50
abbrev kedgeref05_Check : Nat := 51
abbrev kedgeref05_Base : Nat := 52
abbrev kedgeref01_Good : Nat := 53
abbrev kedgeref07_Size : Nat := 54
abbrev kedgeref05_Same : Nat := 55
abbrev tx_Copy : Nat := 56
abbrev graph_Graph_reach : Nat := 57
abbrev graph_Graph_parents : Nat := 58
abbrev graph_Graph_Above_1 : Nat := 59
abbrev slices_Index_L_string_string : Nat := 60
abbrev graph_Graph_children : Nat := 61
abbrev kedgelaw15_made : Nat := 62
abbrev ident_Size : Nat := 63
abbrev limit_within : Nat := 64
abbrev limit_housed : Nat := 65
abbrev kedgeref15_count : Nat := 66
abbrev kedgeref06_Bytes : Nat := 67
abbrev kedgeref04_Twice : Nat := 68
abbrev maps_Clone_map_string_api_Entry_string_api_Entry : Nat := 69
abbrev slices_Clone_L_string_string : Nat := 70
abbrev maps_Clone_map_api_Point_string_api_Point_string : Nat := 71
abbrev slices_IndexFunc_L_string_string : Nat := 72
abbrev ident_ID : Nat := 73
abbrev tx_Base : Nat := 74
abbrev amount_Good : Nat := 75
abbrev kedgeref05_long : Nat := 76
abbrev kedgeref05_Total : Nat := 77
abbrev kedgeref07_Weight : Nat := 78
abbrev slices_Clone_L_api_In_api_In : Nat := 79
abbrev slices_Clone_L_api_Out_api_Out : Nat := 80
abbrev slices_Concat_L_string_string : Nat := 81
abbrev graph_Graph_reach_1 : Nat := 82
abbrev ident_Weight : Nat := 83
abbrev kedgeref02_Put : Nat := 84
abbrev kedgeref06_length : Nat := 85
abbrev kedgeref04_Sum : Nat := 86
abbrev maps_clone : Nat := 87
abbrev wire_Bare : Nat := 88
abbrev sha_Twice : Nat := 89
abbrev tx_base : Nat := 90
abbrev amount_within : Nat := 91
abbrev kedgeref01_Sum : Nat := 92
abbrev slices_Grow_L_string_string : Nat := 93
abbrev wire_Encode : Nat := 94
abbrev kedgeref03_Put : Nat := 95
abbrev kedgeref04_pad : Nat := 96
abbrev kedgeref04_block : Nat := 97
abbrev tx_Check : Nat := 98
abbrev wire_encode : Nat := 99
abbrev sha_Sum : Nat := 100
abbrev strings_Repeat : Nat := 101
abbrev wire_witnessed : Nat := 102
abbrev kedgeref04_k : Nat := 103
abbrev kedgeref04_right : Nat := 104
abbrev tx_Total : Nat := 105
abbrev tx_counts : Nat := 106
abbrev tx_long : Nat := 107
abbrev tx_formed : Nat := 108
abbrev tx_twice : Nat := 109
abbrev wire_encode_1 : Nat := 110
abbrev strings_Builder_WriteString : Nat := 111
abbrev octet_Put : Nat := 112
abbrev wire_counted : Nat := 113
abbrev wire_sized : Nat := 114
abbrev strings_Builder_String : Nat := 115
abbrev sha_begin : Nat := 116
abbrev sha_keys : Nat := 117
abbrev sha_padded : Nat := 118
abbrev sha_schedule : Nat := 119
abbrev sha_round : Nat := 120
abbrev sha_high : Nat := 121
abbrev math_bits_Mul : Nat := 122
abbrev strings_HasPrefix : Nat := 123
abbrev strings_Builder_Grow : Nat := 124
abbrev strings_Builder_Len : Nat := 125
abbrev slices_ContainsFunc_L_api_In_api_In : Nat := 126
abbrev wire_witnessed_1 : Nat := 127
abbrev amount_Sum : Nat := 128
abbrev tx_within : Nat := 129
abbrev tx_counts_1 : Nat := 130
abbrev tx_long_1 : Nat := 131
abbrev slices_ContainsFunc_L_api_Out_api_Out : Nat := 132
abbrev tx_long_2 : Nat := 133
abbrev tx_long_3 : Nat := 134
abbrev slices_ContainsFunc_L_string_string : Nat := 135
abbrev strings_Builder_copyCheck : Nat := 136
abbrev octet_known : Nat := 137
abbrev vint_Put : Nat := 138
abbrev sha_right : Nat := 139
abbrev math_bits_Mul32 : Nat := 140
abbrev math_bits_Mul64 : Nat := 141
abbrev internal_stringslite_HasPrefix : Nat := 142
abbrev strings_Builder_grow : Nat := 143
abbrev slices_IndexFunc_L_api_In_api_In : Nat := 144
abbrev amount_Add : Nat := 145
abbrev slices_IndexFunc_L_api_Out_api_Out : Nat := 146
abbrev internal_abi_NoEscape : Nat := 147
abbrev slices_Contains_L_int_int : Nat := 148
abbrev math_bits_RotateLeft32 : Nat := 149
abbrev internal_bytealg_MakeNoZero : Nat := 150
abbrev slices_Index_L_int_int : Nat := 151
abbrev runtime_boundsError_Error : Nat := 152
abbrev runtime_boundsError_RuntimeError : Nat := 153
abbrev runtime_errorString_Error : Nat := 154
abbrev runtime_errorString_RuntimeError : Nat := 155
abbrev runtime_plainError_Error : Nat := 156
abbrev runtime_plainError_RuntimeError : Nat := 157
abbrev runtime_errorAddressString_Error : Nat := 158
abbrev runtime_errorAddressString_RuntimeError : Nat := 159
abbrev runtime_TypeAssertionError_Error : Nat := 160
abbrev runtime_TypeAssertionError_RuntimeError : Nat := 161
abbrev runtime_PanicNilError_Error : Nat := 162
abbrev runtime_PanicNilError_RuntimeError : Nat := 163
abbrev internal_abi_Type_Align : Nat := 164
abbrev internal_runtime_maps_unhashableTypeError_Error : Nat := 165
abbrev internal_runtime_maps_unhashableTypeError_RuntimeError : Nat := 166
abbrev api_Errno_Error : Nat := 167
abbrev strings_Builder_Reset : Nat := 168
abbrev internal_abi_Kind_String : Nat := 169
end F
namespace T
abbrev func : Nat := 1
abbrev int64 : Nat := 2
abbrev int : Nat := 3
abbrev bool : Nat := 4
abbrev uint8 : Nat := 5
abbrev abi_BoundsErrorCode : Nat := 6
abbrev struct_x_int64_y_int_signed_bool_code_abi_BoundsErrorCode : Nat := 7
abbrev runtime_boundsError : Nat := 8
abbrev string : Nat := 9
abbrev runtime_errorString : Nat := 10
abbrev runtime_plainError : Nat := 11
abbrev uintptr : Nat := 12
abbrev struct_msg_string_addr_uintptr : Nat := 13
abbrev runtime_errorAddressString : Nat := 14
abbrev P_runtime_TypeAssertionError : Nat := 15
abbrev P_runtime_PanicNilError : Nat := 16
abbrev P_abi_Type : Nat := 17
abbrev struct_typ_P_abi_Type : Nat := 18
abbrev maps_unhashableTypeError : Nat := 19
abbrev interface : Nat := 20
abbrev int32 : Nat := 21
abbrev L_kedgelaw14_Act : Nat := 22
abbrev uint32 : Nat := 23
abbrev struct_ID_string_Index_uint32 : Nat := 24
abbrev api_Point : Nat := 25
abbrev P_graph_Graph : Nat := 26
abbrev func_P_graph_Graph : Nat := 27
abbrev L_api_Entry : Nat := 28
abbrev L_uint8 : Nat := 29
abbrev kedgeref14_Small : Nat := 31
abbrev L_api_In : Nat := 32
abbrev L_api_Out : Nat := 33
abbrev api_Tx : Nat := 35
abbrev kedgelaw14_Act : Nat := 37
abbrev struct_Tx_api_Tx_ID_string_Fee_int_Size_int : Nat := 38
abbrev api_Entry : Nat := 39
abbrev api_Errno : Nat := 40
abbrev func_string_api_Errno : Nat := 41
abbrev L_api_Entry_int : Nat := 42
abbrev func_L_api_Entry_string_L_api_Entry_int : Nat := 43
abbrev func_L_api_Entry_kedgelaw14_Act_api_Tx : Nat := 44
abbrev func_api_Tx_int_api_Errno : Nat := 45
abbrev func_L_api_Entry_api_Tx_int_L_api_Entry_int : Nat := 46
abbrev funcgraph_Graph_L_api_Entry_bool : Nat := 47
abbrev L_string : Nat := 48
abbrev struct_From_api_Point_Sequence_uint32_Witness_L_string : Nat := 49
abbrev api_In : Nat := 50
abbrev func_L_api_Entry_string_int : Nat := 51
abbrev api_Entry_bool : Nat := 52
abbrev func_string_api_Entry_bool : Nat := 53
abbrev string_bool : Nat := 54
abbrev func_api_Point_string_bool : Nat := 55
abbrev func_L_api_Entry_api_Point_int : Nat := 56
abbrev struct_Value_int_Script_string : Nat := 57
abbrev api_Out : Nat := 58
abbrev api_Out_bool : Nat := 59
abbrev func_api_Point_api_Out_bool : Nat := 60
abbrev func_bool : Nat := 61
abbrev func_L_kedgelaw14_Act_api_Point_bool : Nat := 62
abbrev graph_Graph_L_api_Entry : Nat := 63
abbrev func_L_kedgelaw14_Act_int_graph_Graph_L_api_Entry : Nat := 64
abbrev func_L_api_Entry : Nat := 65
abbrev map_string_L_string : Nat := 66
abbrev func_api_Tx_L_string : Nat := 67
abbrev func_L_string_string_bool : Nat := 68
abbrev func_string_L_string : Nat := 69
abbrev func_L_kedgelaw14_Act_bool : Nat := 70
abbrev struct_On_L_uint8_Two_L_uint8_Long_L_uint8_Fewer_bool : Nat := 71
abbrev kedgelaw15_Build : Nat := 72
abbrev func_kedgelaw15_Build_bool_graph_Graph_L_api_Entry : Nat := 73
abbrev L_kedgeref14_Small : Nat := 74
abbrev func_L_api_Entry_kedgeref14_Small_api_Tx : Nat := 75
abbrev funcgraph_Graph_api_Tx_api_Errno : Nat := 76
abbrev func_L_api_Entry_api_Tx_int : Nat := 77
abbrev func_kedgelaw15_Build_uint8_uint8_bool : Nat := 78
abbrev func_api_Tx_int_api_Tx : Nat := 79
abbrev L_api_Tx : Nat := 80
abbrev func_kedgelaw15_Build_api_Tx_uint8_bool : Nat := 81
abbrev func_int_string : Nat := 82
abbrev func_api_Tx_string : Nat := 83
abbrev func_string_int_int_api_Tx : Nat := 84
abbrev int_int : Nat := 85
abbrev func_L_string_int_int : Nat := 86
abbrev func_uint8_bool_bool : Nat := 87
abbrev L_bool : Nat := 88
abbrev func_L_api_Entry_api_Tx_L_bool : Nat := 89
abbrev func_L_api_Entry_L_bool_int_int : Nat := 90
abbrev func_L_string_L_string_bool : Nat := 91
abbrev func_L_api_Entry_L_bool_L_string : Nat := 92
abbrev func_L_api_Entry_string_L_bool : Nat := 93
abbrev func_L_kedgelaw14_Act_api_Tx_string_bool : Nat := 94
abbrev func_kedgelaw15_Build_bool : Nat := 95
abbrev func_api_Tx_api_Entry_bool : Nat := 96
abbrev func_L_kedgelaw14_Act_L_kedgelaw14_Act_bool : Nat := 97
abbrev map_string_api_Entry : Nat := 98
abbrev map_api_Point_string : Nat := 99
abbrev graph_Graph : Nat := 101
abbrev func_L_string_func_string_bool_L_string : Nat := 102
abbrev func_string_bool : Nat := 103
abbrev api_Entry_api_Errno : Nat := 104
abbrev func_api_Tx_int_api_Entry_api_Errno : Nat := 105
abbrev func_api_Tx_int : Nat := 106
abbrev func_api_Point_bool : Nat := 107
abbrev func_int_bool : Nat := 108
abbrev func_api_Tx_api_Tx_bool : Nat := 109
abbrev func_api_Tx_api_Tx : Nat := 110
abbrev func_L_string_func_api_Entry_L_string_L_string : Nat := 111
abbrev func_api_Entry_L_string : Nat := 112
abbrev func_L_string_string_int : Nat := 113
abbrev func_L_api_Entry_kedgelaw15_Build_int_uint8_api_Tx : Nat := 114
abbrev int_api_Errno : Nat := 115
abbrev func_api_Tx_int_api_Errno_ : Nat := 116
abbrev funcgraph_Graph_L_string_int_int_int_bool : Nat := 117
abbrev func_L_bool_int : Nat := 118
abbrev func_api_Tx_bool_string : Nat := 119
abbrev func_string_string : Nat := 120
abbrev map_string_int : Nat := 121
abbrev func_map_string_api_Entry_map_string_api_Entry : Nat := 122
abbrev func_L_string_L_string : Nat := 123
abbrev func_map_api_Point_string_map_api_Point_string : Nat := 124
abbrev func_L_string_func_string_bool_int : Nat := 125
abbrev string_api_Errno : Nat := 126
abbrev func_api_Tx_string_api_Errno : Nat := 127
abbrev func_api_Tx_bool : Nat := 128
abbrev func_api_Tx_int_int : Nat := 129
abbrev func_L_api_In_L_api_In : Nat := 130
abbrev func_L_api_Out_L_api_Out : Nat := 131
abbrev func_L_string_L_string_ : Nat := 132
abbrev uint : Nat := 133
abbrev func_uint64_int_string : Nat := 134
abbrev uint64 : Nat := 135
abbrev func_interface_interface : Nat := 136
abbrev func_api_Point : Nat := 137
abbrev func_int_int_bool : Nat := 138
abbrev L_int : Nat := 139
abbrev func_L_int_int_int : Nat := 140
abbrev L_L_string : Nat := 141
abbrev func_L_string_int_L_string : Nat := 142
abbrev func_uint64_string : Nat := 143
abbrev n_8_uint32 : Nat := 144
abbrev func_string_L_uint8 : Nat := 145
abbrev func_8_uint32_L_uint8_8_uint32 : Nat := 146
abbrev func_api_Tx_api_Errno : Nat := 147
abbrev func_string_int_string : Nat := 148
abbrev n_64_uint32 : Nat := 149
abbrev func_64_uint32 : Nat := 150
abbrev func_uint32_uint_uint32 : Nat := 151
abbrev P_strings_Builder : Nat := 152
abbrev struct_addr_P_strings_Builder_buf_L_uint8 : Nat := 153
abbrev strings_Builder : Nat := 154
abbrev interface_Error_string : Nat := 155
abbrev error : Nat := 156
abbrev int_error : Nat := 157
abbrev func_string_int_error : Nat := 158
abbrev func_uint64_int : Nat := 159
abbrev func_string : Nat := 160
abbrev func_8_uint32 : Nat := 161
abbrev func_string_64_uint32 : Nat := 162
abbrev func_8_uint32_uint32_uint32_8_uint32 : Nat := 163
abbrev uint_uint : Nat := 164
abbrev func_uint_uint_uint_uint : Nat := 165
abbrev func_string_string_bool : Nat := 166
abbrev func_int : Nat := 167
abbrev func_int_ : Nat := 168
abbrev func_L_api_In_func_api_In_bool_bool : Nat := 169
abbrev func_api_In_bool : Nat := 170
abbrev func_L_int_int_api_Errno : Nat := 171
abbrev func_L_api_Out_func_api_Out_bool_bool : Nat := 172
abbrev func_api_Out_bool : Nat := 173
abbrev func_L_string_func_string_bool_bool : Nat := 174
abbrev map_api_Point_int : Nat := 175
abbrev P_uint8 : Nat := 176
abbrev func_uint32_int_uint32 : Nat := 177
abbrev uint32_uint32 : Nat := 178
abbrev func_uint32_uint32_uint32_uint32 : Nat := 179
abbrev uint64_uint64 : Nat := 180
abbrev func_uint64_uint64_uint64_uint64 : Nat := 181
abbrev func_L_api_In_func_api_In_bool_int : Nat := 182
abbrev func_int_int_int_api_Errno : Nat := 183
abbrev func_L_api_Out_func_api_Out_bool_int : Nat := 184
abbrev unsafe_Pointer : Nat := 185
abbrev func_unsafe_Pointer_unsafe_Pointer : Nat := 186
abbrev func_L_int_int_bool : Nat := 187
abbrev func_int_L_uint8 : Nat := 188
abbrev func_L_int_int_int_ : Nat := 189
abbrev runtime_TypeAssertionError : Nat := 191
abbrev n_0_P_runtime_PanicNilError : Nat := 192
abbrev struct_0_P_runtime_PanicNilError : Nat := 193
abbrev runtime_PanicNilError : Nat := 194
abbrev abi_TFlag : Nat := 195
abbrev abi_Kind : Nat := 196
abbrev func_unsafe_Pointer_unsafe_Pointer_bool : Nat := 197
abbrev abi_NameOff : Nat := 198
abbrev abi_TypeOff : Nat := 199
abbrev abi_Type : Nat := 201
end T
@[reducible] def oM (d : Nat) (a : Nat) (k : KR) : KR := .cons ⟨some d, .move (t a), none⟩ k
@[reducible] def oF (d : Nat) (i a : Nat) (k : KR) : KR := .cons ⟨some d, .fieldAddr i (t a), none⟩ k
@[reducible] def oI (d : Nat) (i a b : Nat) (k : KR) : KR := .cons ⟨some d, .indexAddr i (t a) (t b), none⟩ k
@[reducible] def oE (d : Nat) (i a : Nat) (k : KR) : KR := .cons ⟨some d, .field i (t a), none⟩ k
@[reducible] def oN (d : Nat) (i n a : Nat) (k : KR) : KR := .cons ⟨some d, .fieldN i n (t a), none⟩ k
@[reducible] def oX (d : Nat) (i a : Nat) (k : KR) : KR := .cons ⟨some d, .extract i (t a), none⟩ k
@[reducible] def oL (d : Nat) (a : Nat) (k : KR) : KR := .cons ⟨some d, .load (t a), none⟩ k
@[reducible] def oK (d : Nat) (n a : Nat) (k : KR) : KR := .cons ⟨some d, .loadN n (t a), none⟩ k
@[reducible] def oZ (a : Nat) (k : KR) : KR := .cons ⟨none, .nilCheck (t a), none⟩ k
@[reducible] def oS (a b : Nat) (k : KR) : KR := .cons ⟨none, .store (t a) (t b), none⟩ k
@[reducible] def oU (n a b : Nat) (k : KR) : KR := .cons ⟨none, .storeN n (t a) (t b), none⟩ k
@[reducible] def oD (d : Nat) (a : Nat) (k : KR) : KR := .cons ⟨some d, .len false (t a), none⟩ k
@[reducible] def oT (d : Nat) (a : Nat) (k : KR) : KR := .cons ⟨some d, .not (t a), none⟩ k
@[reducible] def oB (d : Nat) (o : BinOp) (a b : Nat) (k : KR) : KR := .cons ⟨some d, .bin o (t a) (t b), none⟩ k
@[reducible] def oC (d : Nat) (o : BinOp) (a : Nat) (c : Int) (k : KR) : KR := .cons ⟨some d, .bin o (t a) (.const (.int .i64 c)), none⟩ k
@[reducible] def oV (d : Nat) (c : IntKind) (a : Nat) (k : KR) : KR := .cons ⟨some d, .conv c (t a), none⟩ k
@[reducible] def oO (d : Nat) (c : Int) (k : KR) : KR := .cons ⟨some d, .move (.const (.int .i64 c)), none⟩ k
@[reducible] def oR (d : Nat) (o : KOp) (k : KR) : KR := .cons ⟨some d, o, none⟩ k
@[reducible] def oQ (o : KOp) (k : KR) : KR := .cons ⟨none, o, none⟩ k
@[reducible] def oG (d : Nat) (n : Nat) (b : Bool) (o : KOp) (k : KR) : KR := .cons ⟨some d, o, some (n, b)⟩ k
@[reducible] def oH (n : Nat) (b : Bool) (o : KOp) (k : KR) : KR := .cons ⟨none, o, some (n, b)⟩ k
@[reducible] def oi (c : Int) : Operand := .const (.int .i64 c)
@[reducible] def oa (f a : Nat) : KOp := .call f [t a]
@[reducible] def ob (f a b : Nat) : KOp := .call f [t a, t b]
@[reducible] def oc (f a b c : Nat) : KOp := .call f [t a, t b, t c]
@[reducible] def od (c : Bool) (k : KR) : KC := .reg c k
structure HeldC (b : Prop) : Prop where
  out : b
/-- The short forms of code, written out. -/
theorem ox {a b : Prop} (k : b) (h : HeldC b → a := by intro hheld; dsimp -failIfUnchanged only [oM, oF, oI, oE, oN, oX, oL, oK, oZ, oS, oU, oD, oT, oB, oC, oV, oO, oR, oQ, oG, oH, oi, oa, ob, oc, od]; exact hheld.out) : a := h ⟨k⟩
@[reducible] def q0 : Quiet Tryz.prog := ⟨fun _ => none, fun _ _ _ _ _ h => (nomatch h)⟩
end Go.Proofs.YtfeifodeaphbjaaGreat
end
