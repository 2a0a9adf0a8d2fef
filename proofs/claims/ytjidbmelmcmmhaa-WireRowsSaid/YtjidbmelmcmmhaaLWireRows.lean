/- The plain law of WireRows: a row that may be is written as the document says, and read again; with a byte more it is none. Conditions: none but those that stand in each law. -/
import Derived.Test.YtjidbmelmcmmhaaPsame06
namespace Go.Ark
open Go Go.Ab Go.RowKit

theorem law06_WireRows_plain (q_0 : Law06_Spec) (b_1 : Int) (_h0 : wfLaw06_Spec q_0) (_h1 : (Lit.int .u8 b_1).wf = true) : law06_WireRows q_0 b_1 = some true := by
  obtain ⟨c, hc, hok⟩ := law06_Spec_row_tot q_0
  have hl := rowL_len hok
  have hb : (bytesOf [b_1]).size = 1 := rfl
  unfold law06_WireRows
  rw [law06_awake_eq, hc]
  simp only [Option.bind_some]
  rw [wire_RowBytes_eq (okRow_S hok), Option.bind_some]
  unfold rowB
  rw [hok, if_pos rfl]
  have hs : (ofL (rowL c)).size = (rowL c).length := ofL_size _
  rw [wire_ReadRow_eq (by omega), Option.bind_some, bl_ofL]
  have h1 := rdRow_at hok []
  rw [List.append_nil] at h1
  rw [h1, runF_some]
  have e1 : finW (ofL (rowL c)).size c (rowL c).length = (c, true) := by
    unfold finW
    rw [if_pos ⟨hs.symm, hok⟩]
  rw [e1, scat_L (by omega), Option.bind_some]
  have hs2 : (ofL (rowL c) ++ bytesOf [b_1]).size = (rowL c).length + 1 := by rw [← bl_len, bl_app, List.length_append, bl_ofL, bl_len, hb]
  rw [wire_ReadRow_eq (by omega), Option.bind_some, bl_app, bl_ofL, rdRow_at hok, runF_some]
  have e2 : finW (ofL (rowL c) ++ bytesOf [b_1]).size c (rowL c).length = (noRow, false) := by
    unfold finW
    rw [if_neg (fun q => by have := q.1; omega)]
  rw [e2, ref06_RowBytes_eq hok]
  simp only [if_true, Option.bind_some]
  unfold law06_WireRows_k1 law06_WireRows_k2
  rw [seq_eq, decide_eq_true rfl, if_pos rfl, if_pos rfl, law06_same_eq hok]
  simp
end Go.Ark
