/- The plain law of WireBack: a version that was written is read; with a byte more, or less, it is none. Conditions: none but those that stand in each law. -/
import Derived.Test.YtjidbmelmcmmhaaPlaw06
namespace Go.Ark
open Go Go.Ab Go.RowKit

theorem law06_WireBack_plain (v_0 : Api_Version) (c_1 : Int) (_h0 : wfApi_Version v_0) (_h1 : (Lit.int .u8 c_1).wf = true) : law06_WireBack v_0 c_1 = some true := by
  obtain ⟨v, hv, vi⟩ := law06_few_tot v_0
  have hp : v.Past.length ≤ 140737488355328 := by have := vi.2.2.1; omega
  unfold law06_WireBack
  rw [law06_awake_eq, hv]
  simp only [Option.bind_some]
  rw [wire_Bytes_eq vi.small, wire_Check_eq vi.small.small]
  simp only [Option.bind_some]
  cases ok : okVersion v with
  | false =>
    unfold verB law06_WireBack_k1
    rw [ok]
    simp [seq_eq]
  | true =>
    have hl := verL_len vi.small
    have hb : verB v = ofL (verL v) := by unfold verB; rw [ok]; rfl
    rw [hb]
    simp only [Bool.not_true, Bool.false_eq_true, if_false]
    rw [read_ver vi.small ok]
    simp only [Option.bind_some]
    obtain ⟨x, hx⟩ : ∃ x, bytesOf [c_1] = ofL [x] := ⟨_, rfl⟩
    rw [hx, scat_L (by rw [ofL_size, ofL_size]; simp; omega), ofL_app]
    simp only [Option.bind_some]
    -- a byte more
    have hmore : wire_Read (ofL (verL v ++ [x])) = some (noVer, false) := by
      rw [wire_Read_eq (by rw [ofL_size]; simp; omega), bl_ofL, rdV_ver ok, ofL_size]
      rw [resV_some, if_neg (fun c => by have := c.1; simp at this)]
    rw [hmore]
    simp only [Option.bind_some]
    rw [if_neg (fun e => absurd (of_decide_eq_true e) (by rw [ofL_size]; omega)), ofL_size, wrap64 (by omega) (by omega)]
    -- a byte less
    have hsub : ssub (ofL (verL v)) 0 (((verL v).length : Int) - 1) = some (ofL ((verL v).take ((verL v).length - 1))) := by
      unfold ssub
      rw [if_pos ⟨by omega, by omega, by rw [ofL_size]; omega⟩]
      refine congrArg some (bl_inj ?_)
      rw [bl_extract, bl_ofL, bl_ofL, show (((verL v).length : Int) - 1).toNat = (verL v).length - 1 by omega]
      rfl
    have hless : wire_Read (ofL ((verL v).take ((verL v).length - 1))) = some (noVer, false) := by
      have hlt : ((verL v).take ((verL v).length - 1)).length = (verL v).length - 1 := by rw [List.length_take]; omega
      rw [wire_Read_eq (by rw [ofL_size]; omega), bl_ofL, ofL_size, hlt]
      cases hr : rdV ((verL v).take ((verL v).length - 1)) with
      | none => rfl
      | some y =>
        obtain ⟨u, k⟩ := y
        obtain ⟨-, h2⟩ := mono_rdV _ _ _ hr
        have h3 := h2 ((verL v).drop ((verL v).length - 1))
        have h4 := rdV_ver ok []
        rw [List.take_append_drop] at h3
        rw [List.append_nil, h3] at h4
        simp only [Option.some.injEq, Prod.mk.injEq] at h4
        rw [resV_some, if_neg (fun c => by have := c.1; omega)]
    rw [hsub]
    simp only [Option.bind_some]
    rw [hless]
    simp only [Option.bind_some, if_true]
    unfold law06_WireBack_k2
    simp only [if_true]
    rw [wire_Same_eq hp]
    simp [law06_WireBack_k3]
end Go.Ark
