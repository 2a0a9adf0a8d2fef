/- Walks, printed by a program of mine: each function of the program computes the typed function of its name. Conditions: none. -/
import Derived.Test.YtjmleebbmomcgaaWChainOrder1
namespace Go.Ark
open Go Go.Ab Go.RowKit Go.Lib Go.Proofs

set_option maxRecDepth 100000 in
set_option maxHeartbeats 4000000 in
theorem insShift33 (b n c i vb voff vc : Nat) (cs vs : List Value) (w : World) (hi : i < n) (hroom : n + 1 ≤ c) (hc63 : c ≤ 9223372036854775807) (hvb : vb ≠ b)
    (hcl : cs.length = n * 6) (hvl : vs.length = 6)
    (hcs : ∀ j v, cs[j]? = some v → w.cell? ⟨b, j, none⟩ = some v) (hsp : ∀ j, j < (n + 1) * 6 → (w.cell? ⟨b, j, none⟩).isSome = true) (hfz : ∀ j, j < (n + 1) * 6 → w.frozen? ⟨b, j, none⟩ = false)
    (hvs : ∀ j v, vs[j]? = some v → w.cell? ⟨vb, voff + j, none⟩ = some v) (h1c : ∀ v ∈ cs, v.oneCell' = true) (h1v : ∀ v ∈ vs, v.oneCell' = true)
    (hov : ∀ lb cb, (callFunc 44 #[.slice (some ⟨vb, voff, none⟩) 1 vc, .slice (some ⟨b, (i + 1) * 6, none⟩) lb cb]).run Try.prog w = .ok (.value (.bool false)) w) :
    Calls Try.prog 33 #[.slice (some ⟨b, 0, none⟩) n c, .int .i64 i, .slice (some ⟨vb, voff, none⟩) 1 vc] w fun e w' =>
      e = .returned (.slice (some ⟨b, 0, none⟩) (n + 1) c) ∧ w' = (w.drew.setCells b ((i + 1) * 6) (cs.drop (i * 6))).setCells b (i * 6) vs := by
  have t0 := Try.underlying0; have a0 := Try.isAgg0; have z0 := Try.sizeOf0; have v0 := Try.zeroValue0; have u0 := run_underlying t0
  have t3 := Try.underlying3; have a3 := Try.isAgg3; have z3 := Try.sizeOf3; have v3 := Try.zeroValue3; have u3 := run_underlying t3
  have t4 := Try.underlying4; have a4 := Try.isAgg4; have z4 := Try.sizeOf4; have v4 := Try.zeroValue4; have u4 := run_underlying t4
  have t22 := Try.underlying22; have a22 := Try.isAgg22; have z22 := Try.sizeOf22; have v22 := Try.zeroValue22; have u22 := run_underlying t22
  have z28 := Try.sizeOf28
  have hz2 : ¬ ((i : Int) = (n : Int)) := by omega
  have hsz : (Try.prog.info? 28).map (·.size) = some 6 := by
    obtain ⟨i0, hi0, h0, h1, h2⟩ := info_parts insInfo33
    rw [hi0]; simp [h1]
  have hdl : (cs.drop (i * 6)).length = (n - i) * 6 := by rw [List.length_drop, hcl, Nat.sub_mul]
  have mixed := follows
  have hw0 : IntKind.i64.wrap ((n : Int) + 1) = (n : Int) + 1 := by rw [IntKind.wrap_i64]; omega
  have hw1 : IntKind.i64.wrap ((i : Int) + 1) = (i : Int) + 1 := by rw [IntKind.wrap_i64]; omega
  have hb0 : (0 : Int) ≤ (n : Int) + 1 := by omega
  have hb1 : (0 : Int) ≤ (i : Int) + 1 := by omega
  have hin : i ≤ n := by omega
  have htn : ((i : Int) + 1).toNat = i + 1 := by omega
  have htn2 : ((n : Int) + 1).toNat = n + 1 := by omega
  have hb2 : ¬ (c = i + 1) := by omega
  have hb3 : (i : Int) ≤ (n : Int) + 1 := by omega
  have hb4 : ¬ (c = i) := by omega
  have hb5 : ¬ ((c : Int) < (n : Int) + 1) := by omega
  have hb6 : (n : Int) + 1 ≤ (c : Int) := by omega
  have hcp1 : ∀ ty dc sc, (Builtin.copy_ #[22, 22] ty #[.slice (some ⟨b, (i + 1) * 6, none⟩) (n - i) dc, .slice (some ⟨b, i * 6, none⟩) (n + 1 - i) sc]).run Try.prog w.drew = .ok (goInt ((n - i : Nat) : Int)) (w.drew.setCells b ((i + 1) * 6) (cs.drop (i * 6))) := fun ty dc sc =>
    run_copy_rows w.drew _ _ ty 28 b ((i + 1) * 6) (n - i) dc ⟨b, i * 6, none⟩ (n + 1 - i) sc 6 (n - i) (cs.drop (i * 6)) t22 hsz (by simp only [Nat.min_def]; split <;> omega) hdl
      (fun j v hj => by rw [Addr.add_lit]; exact hcs (i * 6 + j) v (by rwa [List.getElem?_drop] at hj))
      (fun j hj => hsp _ (by rw [hdl] at hj; omega)) (fun j hj => hfz _ (by rw [hdl] at hj; omega)) (fun v hv => h1c v (List.mem_of_mem_drop hv))
  obtain ⟨W1, hW1⟩ : ∃ W1, W1 = w.drew.setCells b ((i + 1) * 6) (cs.drop (i * 6)) := ⟨_, rfl⟩
  have hsp1 : ∀ k, k < (n + 1) * 6 → (W1.cell? ⟨b, k, none⟩).isSome = true := fun k hk => by
    rw [hW1]
    exact isSome_setCells b (cs.drop (i * 6)) ((i + 1) * 6) w.drew (fun j hj => hsp ((i + 1) * 6 + j) (by rw [hdl] at hj; omega)) k (hsp k hk)
  have hcp2 : ∀ (W : World), (∀ x, W.cell? x = W1.cell? x) → (∀ x, W.frozen? x = W1.frozen? x) → ∀ ty dc, (Builtin.copy_ #[22, 22] ty #[.slice (some ⟨b, i * 6, none⟩) (n + 1 - i) dc, .slice (some ⟨vb, voff, none⟩) 1 vc]).run Try.prog W = .ok (goInt 1) (W.setCells b (i * 6) vs) := fun W hWc hWf ty dc =>
    run_copy_rows W _ _ ty 28 b (i * 6) (n + 1 - i) dc ⟨vb, voff, none⟩ 1 vc 6 1 vs t22 hsz (by simp only [Nat.min_def]; split <;> omega) (by rw [hvl])
      (fun j v hj => by
        rw [Addr.add_lit, hWc, hW1, World.cell?_setCells_out b _ _ _ _ (fun h _ => absurd h hvb)]
        exact hvs j v hj)
      (fun j hj => by rw [hWc]; exact hsp1 _ (by rw [hvl] at hj; omega)) (fun j hj => by rw [hWf, hW1, World.frozen?_setCells]; exact hfz _ (by rw [hvl] at hj; omega)) h1v
  rw [← hW1] at hcp1
  go_enter Try.func33, Try.ntmps33
  go_wp2_with (simp only [hov])
  go_region_law_o (refine step_copy_runI rfl _ _ 22 22 rfl _ _ (by simp [Act.eval, Act.put]) (by simp [Act.eval, Act.put]) (hcp1 _ _ _) ?_)
  go_wp2_with (at_builtin; refine wpList_copy_runI _ rfl _ _ 22 22 rfl _ _ rfl rfl (hcp2 _ (fun _ => rfl) (fun _ => rfl) _ _) ?_)
  go_ret
  first | exact ⟨rfl, rfl⟩ | exact ⟨rfl, by rw [hW1]⟩

set_option maxRecDepth 100000 in
set_option maxHeartbeats 4000000 in
theorem insRoom33 (b n c vb voff vc : Nat) (vs : List Value) (w : World) (hroom : n + 1 ≤ c) (hc63 : c ≤ 9223372036854775807) (hvl : vs.length = 6)
    (hsp : ∀ j, j < 6 → (w.cell? ⟨b, n * 6 + j, none⟩).isSome = true) (hfz : ∀ j, j < 6 → w.frozen? ⟨b, n * 6 + j, none⟩ = false)
    (hvs : ∀ j v, vs[j]? = some v → w.cell? ⟨vb, voff + j, none⟩ = some v) (h1v : ∀ v ∈ vs, v.oneCell' = true) :
    Calls Try.prog 33 #[.slice (some ⟨b, 0, none⟩) n c, .int .i64 n, .slice (some ⟨vb, voff, none⟩) 1 vc] w fun e w' =>
      e = .returned (.slice (some ⟨b, 0, none⟩) (n + 1) c) ∧ w' = w.setCells b (n * 6) vs := by
  have t0 := Try.underlying0; have a0 := Try.isAgg0; have z0 := Try.sizeOf0; have v0 := Try.zeroValue0; have u0 := run_underlying t0
  have t3 := Try.underlying3; have a3 := Try.isAgg3; have z3 := Try.sizeOf3; have v3 := Try.zeroValue3; have u3 := run_underlying t3
  have t4 := Try.underlying4; have a4 := Try.isAgg4; have z4 := Try.sizeOf4; have v4 := Try.zeroValue4; have u4 := run_underlying t4
  have t22 := Try.underlying22; have a22 := Try.isAgg22; have z22 := Try.sizeOf22; have v22 := Try.zeroValue22; have u22 := run_underlying t22
  have z28 := Try.sizeOf28
  obtain ⟨i0, hi0, hz0, hzs, hzb⟩ := info_parts insInfo33
  have mixed := follows
  have hsrc : Src Try.prog i0.size 22 (.slice (some ⟨vb, voff, none⟩) 1 vc) 1 vs w := by
    rw [hzs]
    exact Src.ofSlice w t22 ⟨vb, voff, none⟩ 1 vc vs (by omega) (fun j u hj => by rw [Addr.add_lit]; exact hvs j u hj) h1v
  have hrun : ∀ ty, (Builtin.append_ #[22, 22] ty #[.slice (some ⟨b, 0, none⟩) n c, .slice (some ⟨vb, voff, none⟩) 1 vc]).run Try.prog w = .ok (.slice (some ⟨b, 0, none⟩) (n + 1) c) (w.setCells b (n * 6) vs) := fun ty => by
    have h := run_append_room_src w 22 22 ty 28 i0 t22 hi0 b 0 n c _ 1 vs hsrc hroom (fun j hj => by rw [hzs, Nat.zero_add]; exact hsp j (by omega)) (fun j hj => by rw [hzs, Nat.zero_add]; exact hfz j (by omega))
    rw [hzs, Nat.zero_add] at h
    exact h
  go_enter Try.func33, Try.ntmps33
  go_wp2_with (at_builtin; refine Lib.wpList_append_run _ rfl _ _ _ _ rfl _ _ rfl rfl _ _ (hrun _) ?_)
  go_ret
  exact ⟨rfl, rfl⟩

set_option maxRecDepth 100000 in
set_option maxHeartbeats 4000000 in
theorem insEnd33 (base : Option Addr) (n c vb voff vc : Nat) (cs vs : List Value) (w : World) (hnc : n ≤ c) (hroom : c < n + 1) (hbig : (n + 1) * 80 ≤ 140737488355328)
    (hcl : cs.length = n * 6) (hvl : vs.length = 6) (hnil : base = none → n = 0) (hcs : ∀ a, base = some a → ∀ j v, cs[j]? = some v → w.cell? (a.add j) = some v)
    (hvs : ∀ j v, vs[j]? = some v → w.cell? ⟨vb, voff + j, none⟩ = some v) (h1v : ∀ v ∈ vs, v.oneCell' = true) :
    Calls Try.prog 33 #[.slice base n c, .int .i64 n, .slice (some ⟨vb, voff, none⟩) 1 vc] w fun e w' =>
      e = .returned (.slice (some ⟨w.heap.size, 0, none⟩) (n + 1) (grownCap w (n + 1) c 28)) ∧
      w' = w.drew.alloc (.cells ((cs ++ vs).toArray ++ Builtin.zeroCells (.agg #[.string ByteArray.empty, .string ByteArray.empty, .bool false, .int .i64 0, .int .i64 0, .slice none 0 0] : Value).cells (grownCap w (n + 1) c 28 - (n + 1))) 28) := by
  have t0 := Try.underlying0; have a0 := Try.isAgg0; have z0 := Try.sizeOf0; have v0 := Try.zeroValue0; have u0 := run_underlying t0
  have t3 := Try.underlying3; have a3 := Try.isAgg3; have z3 := Try.sizeOf3; have v3 := Try.zeroValue3; have u3 := run_underlying t3
  have t4 := Try.underlying4; have a4 := Try.isAgg4; have z4 := Try.sizeOf4; have v4 := Try.zeroValue4; have u4 := run_underlying t4
  have t22 := Try.underlying22; have a22 := Try.isAgg22; have z22 := Try.sizeOf22; have v22 := Try.zeroValue22; have u22 := run_underlying t22
  have z28 := Try.sizeOf28
  obtain ⟨i0, hi0, hz0, hzs, hzb⟩ := info_parts insInfo33
  have mixed := follows
  have hsrc : Src Try.prog i0.size 22 (.slice (some ⟨vb, voff, none⟩) 1 vc) 1 vs w := by
    rw [hzs]
    exact Src.ofSlice w t22 ⟨vb, voff, none⟩ 1 vc vs (by omega) (fun j u hj => by rw [Addr.add_lit]; exact hvs j u hj) h1v
  have hold : (Builtin.firstCells i0.size n (.slice base n c)).run Try.prog w.drew = .ok cs.toArray w.drew := by
    rw [hzs]
    cases base with
    | none =>
      have h0 := hnil rfl
      subst h0
      rw [List.length_eq_zero_iff.1 (by omega : cs.length = 0)]
      exact run_firstCells_none w.drew 6 0 0 c
    | some a => exact run_firstCells_some w.drew 6 n a n c cs (by omega) (fun j v hj => hcs a rfl j v hj)
  have hrun : ∀ ty, (Builtin.append_ #[22, 22] ty #[.slice base n c, .slice (some ⟨vb, voff, none⟩) 1 vc]).run Try.prog w = _ := fun ty =>
    run_append_grow_src w 22 22 ty 28 i0 _ t22 hi0 hz0 base n c cs hold _ 1 vs hsrc hroom (by omega) (by rw [hzb]; exact growslice_fits hroom hbig)
  go_enter Try.func33, Try.ntmps33
  cases base with
  | none =>
    have h0 := hnil rfl
    subst h0
    go_wp2_with (at_builtin; refine Lib.wpList_append_run _ rfl _ _ _ _ rfl _ _ rfl rfl _ _ (hrun _) ?_)
    go_ret
    exact ⟨rfl, rfl⟩
  | some a =>
    obtain ⟨ab, ao, asp⟩ := a
    go_wp2_with (at_builtin; refine Lib.wpList_append_run _ rfl _ _ _ _ rfl _ _ rfl rfl _ _ (hrun _) ?_)
    all_goals (go_ret; exact ⟨rfl, rfl⟩)

set_option maxRecDepth 100000 in
set_option maxHeartbeats 4000000 in
theorem insGrow33 (b n c i vb voff vc : Nat) (cs vs : List Value) (w : World) (hi : i < n) (hnc : n ≤ c) (hroom : c < n + 1) (hbig : (n + 1) * 80 ≤ 140737488355328)
    (hcl : cs.length = n * 6) (hvl : vs.length = 6)
    (hcs : ∀ j v, cs[j]? = some v → w.cell? ⟨b, j, none⟩ = some v)
    (hvs : ∀ j v, vs[j]? = some v → w.cell? ⟨vb, voff + j, none⟩ = some v) (h1c : ∀ v ∈ cs, v.oneCell' = true) (h1v : ∀ v ∈ vs, v.oneCell' = true) :
    Calls Try.prog 33 #[.slice (some ⟨b, 0, none⟩) n c, .int .i64 i, .slice (some ⟨vb, voff, none⟩) 1 vc] w fun e w' =>
      e = .returned (.slice (some ⟨w.heap.size, 0, none⟩) (n + 1) (grownCap w (n + 1) c 28)) ∧
      w' = (((w.alloc (.cells ((cs.take (i * 6)).toArray ++ Builtin.zeroCells (.agg #[.string ByteArray.empty, .string ByteArray.empty, .bool false, .int .i64 0, .int .i64 0, .slice none 0 0] : Value).cells (n + 1 - i) ++ Builtin.zeroCells (.agg #[.string ByteArray.empty, .string ByteArray.empty, .bool false, .int .i64 0, .int .i64 0, .slice none 0 0] : Value).cells (grownCap w (n + 1) c 28 - (n + 1))) 28)).drew.setCells w.heap.size (i * 6) vs).drew).setCells w.heap.size ((i + 1) * 6) (cs.drop (i * 6)) := by
  have t0 := Try.underlying0; have a0 := Try.isAgg0; have z0 := Try.sizeOf0; have v0 := Try.zeroValue0; have u0 := run_underlying t0
  have t3 := Try.underlying3; have a3 := Try.isAgg3; have z3 := Try.sizeOf3; have v3 := Try.zeroValue3; have u3 := run_underlying t3
  have t4 := Try.underlying4; have a4 := Try.isAgg4; have z4 := Try.sizeOf4; have v4 := Try.zeroValue4; have u4 := run_underlying t4
  have t22 := Try.underlying22; have a22 := Try.isAgg22; have z22 := Try.sizeOf22; have v22 := Try.zeroValue22; have u22 := run_underlying t22
  have z28 := Try.sizeOf28
  have mixed := follows
  obtain ⟨i0, hi0, hz0, hzs, hzb⟩ := info_parts insInfo33
  have hz2 : ¬ ((i : Int) = (n : Int)) := by omega
  have hz3 : (c : Int) < (n : Int) + 1 := by omega
  have hsz : (Try.prog.info? 28).map (·.size) = some 6 := by rw [hi0]; simp [hzs]
  have hbw : b < w.heap.size := block_lt_of_cell (hcs 0 _ (List.getElem?_eq_getElem (by omega)))
  have hvw : vb < w.heap.size := block_lt_of_cell (hvs 0 _ (List.getElem?_eq_getElem (by omega)))
  have hkk : (n : Int) + 1 - (i : Int) = ((n + 1 - i : Nat) : Int) := by omega
  have hik : i + (n + 1 - i) = n + 1 := by omega
  have hold : (Builtin.firstCells i0.size i (.slice (some ⟨b, 0, none⟩) i c)).run Try.prog w.drew = .ok (cs.take (i * 6)).toArray w.drew := by
    rw [hzs]
    exact run_firstCells_some w.drew 6 i ⟨b, 0, none⟩ i c (cs.take (i * 6)) (by rw [List.length_take]; omega) (fun j v hj => by
      rw [Addr.add_lit, Nat.zero_add]
      rw [List.getElem?_take] at hj
      split at hj
      · exact hcs j v hj
      · cases hj)
  have hrz : ∀ ty, (Builtin.append_ #[22, 3] ty #[.slice (some ⟨b, 0, none⟩) i c, .int .i64 ((n : Int) + 1 - (i : Int))]).run Try.prog w =
      .ok (.slice (some ⟨w.heap.size, 0, none⟩) (n + 1) (grownCap w (n + 1) c 28)) (w.drew.alloc (.cells ((cs.take (i * 6)).toArray ++ Builtin.zeroCells (.agg #[.string ByteArray.empty, .string ByteArray.empty, .bool false, .int .i64 0, .int .i64 0, .slice none 0 0] : Value).cells (n + 1 - i) ++ Builtin.zeroCells (.agg #[.string ByteArray.empty, .string ByteArray.empty, .bool false, .int .i64 0, .int .i64 0, .slice none 0 0] : Value).cells (grownCap w (n + 1) c 28 - (n + 1))) 28)) := fun ty => by
    have h := Lib.run_append_grow_zeros w 22 3 ty 28 i0 _ .i64 .i64 t22 t3 hi0 hz0 (some ⟨b, 0, none⟩) i c (cs.take (i * 6)) hold (n + 1 - i) (by omega) (by omega) (by omega) (by omega) (by rw [hzb]; omega) (by rw [hzb, hik]; exact growslice_fits hroom hbig)
    rw [hik] at h
    rw [hkk]
    exact h
  obtain ⟨G, hG⟩ : ∃ G, G = grownCap w (n + 1) c 28 := ⟨_, rfl⟩
  obtain ⟨ROW, hROW⟩ : ∃ ROW : Array Value, ROW = (cs.take (i * 6)).toArray ++ Builtin.zeroCells (.agg #[.string ByteArray.empty, .string ByteArray.empty, .bool false, .int .i64 0, .int .i64 0, .slice none 0 0] : Value).cells (n + 1 - i) ++ Builtin.zeroCells (.agg #[.string ByteArray.empty, .string ByteArray.empty, .bool false, .int .i64 0, .int .i64 0, .slice none 0 0] : Value).cells (G - (n + 1)) := ⟨_, rfl⟩
  rw [← hG] at hrz ⊢
  rw [← hROW] at hrz ⊢
  have hGn : n + 1 ≤ G := by rw [hG]; exact grownCap_ge w _ _ _
  have hRl : (n + 1) * 6 ≤ ROW.size := by
    rw [hROW]
    simp [Builtin.zeroCells, Value.cells]
    omega
  obtain ⟨W1, hW1⟩ : ∃ W1, W1 = w.drew.alloc (.cells ROW 28) := ⟨_, rfl⟩
  rw [← hW1] at hrz
  have hN : ∀ j, j < (n + 1) * 6 → (W1.cell? ⟨w.heap.size, j, none⟩).isSome = true := fun j hj => by
    rw [hW1, World.cell?_alloc_at (w := w.drew) ROW _ w.heap.size j rfl, Array.getElem?_eq_getElem (by omega)]; rfl
  have hNf : ∀ j, W1.frozen? ⟨w.heap.size, j, none⟩ = false := fun j => by rw [hW1]; exact World.frozen?_alloc_at (w := w.drew) ROW _ w.heap.size j rfl
  have hOb : ∀ j v, w.cell? ⟨b, j, none⟩ = some v → W1.cell? ⟨b, j, none⟩ = some v := fun j v h => by rw [hW1, World.cell?_alloc_past (w := w.drew) _ b j hbw]; exact h
  have hOv : ∀ j v, w.cell? ⟨vb, j, none⟩ = some v → W1.cell? ⟨vb, j, none⟩ = some v := fun j v h => by rw [hW1, World.cell?_alloc_past (w := w.drew) _ vb j hvw]; exact h
  have hcpA : ∀ (W : World), (∀ x, W.cell? x = W1.cell? x) → (∀ x, W.frozen? x = W1.frozen? x) → ∀ ty dc, (Builtin.copy_ #[22, 22] ty #[.slice (some ⟨w.heap.size, i * 6, none⟩) (n + 1 - i) dc, .slice (some ⟨vb, voff, none⟩) 1 vc]).run Try.prog W = .ok (goInt 1) (W.setCells w.heap.size (i * 6) vs) := fun W hWc hWf ty dc =>
    run_copy_rows W _ _ ty 28 w.heap.size (i * 6) (n + 1 - i) dc ⟨vb, voff, none⟩ 1 vc 6 1 vs t22 hsz (by simp only [Nat.min_def]; split <;> omega) (by rw [hvl])
      (fun j v hj => by rw [Addr.add_lit, hWc]; exact hOv _ v (hvs j v hj))
      (fun j hj => by rw [hWc]; exact hN _ (by omega)) (fun j hj => by rw [hWf]; exact hNf _) h1v
  have hG63 : G ≤ 9223372036854775807 := by
    have := grownCap_le_maxLen w (n + 1) c 28 (by unfold maxLen; omega)
    rw [← hG] at this
    unfold maxLen at this
    omega
  have hGi : ¬ (G = i) := by omega
  have hGim : ¬ (G = i + 1) := by omega
  have hci : ¬ (c = i) := by omega
  have hbN : b ≠ w.heap.size := by omega
  have hdl : (cs.drop (i * 6)).length = (n - i) * 6 := by rw [List.length_drop, hcl, Nat.sub_mul]
  have hcpB : ∀ (W : World), (∀ x, W.cell? x = (W1.setCells w.heap.size (i * 6) vs).cell? x) → (∀ x, W.frozen? x = (W1.setCells w.heap.size (i * 6) vs).frozen? x) → ∀ ty dc sc, (Builtin.copy_ #[22, 22] ty #[.slice (some ⟨w.heap.size, (i + 1) * 6, none⟩) (n - i) dc, .slice (some ⟨b, i * 6, none⟩) (n - i) sc]).run Try.prog W = .ok (goInt ((n - i : Nat) : Int)) (W.setCells w.heap.size ((i + 1) * 6) (cs.drop (i * 6))) := fun W hWc hWf ty dc sc =>
    run_copy_rows W _ _ ty 28 w.heap.size ((i + 1) * 6) (n - i) dc ⟨b, i * 6, none⟩ (n - i) sc 6 (n - i) (cs.drop (i * 6)) t22 hsz (by simp only [Nat.min_def]; split <;> omega) hdl
      (fun j v hj => by
        rw [Addr.add_lit, hWc, World.cell?_setCells_out _ _ _ _ _ (fun h _ => absurd h hbN)]
        exact hOb _ v (hcs (i * 6 + j) v (by rwa [List.getElem?_drop] at hj)))
      (fun j hj => by rw [hWc]; exact isSome_setCells w.heap.size vs (i * 6) W1 (fun t ht => hN (i * 6 + t) (by omega)) ((i + 1) * 6 + j) (hN ((i + 1) * 6 + j) (by omega)))
      (fun j hj => by rw [hWf, World.frozen?_setCells]; exact hNf _) (fun v hv => h1c v (List.mem_of_mem_drop hv))
  subst hW1
  have hE1 : ∀ x, ((w.alloc (.cells ROW 28)).drew).cell? x = (w.drew.alloc (.cells ROW 28)).cell? x := fun x => rfl
  have hE2 : ∀ x, ((w.alloc (.cells ROW 28)).drew).frozen? x = (w.drew.alloc (.cells ROW 28)).frozen? x := fun x => rfl
  have hF1 : ∀ x, (((w.alloc (.cells ROW 28)).drew.setCells w.heap.size (i * 6) vs).drew).cell? x = ((w.drew.alloc (.cells ROW 28)).setCells w.heap.size (i * 6) vs).cell? x := fun x => rfl
  have hF2 : ∀ x, (((w.alloc (.cells ROW 28)).drew.setCells w.heap.size (i * 6) vs).drew).frozen? x = ((w.drew.alloc (.cells ROW 28)).setCells w.heap.size (i * 6) vs).frozen? x := fun x => rfl
  have hw0 : IntKind.i64.wrap ((n : Int) + 1) = (n : Int) + 1 := by rw [IntKind.wrap_i64]; omega
  have hw1 : IntKind.i64.wrap ((i : Int) + 1) = (i : Int) + 1 := by rw [IntKind.wrap_i64]; omega
  have hw2 : IntKind.i64.wrap ((n : Int) + 1 - (i : Int)) = (n : Int) + 1 - (i : Int) := by rw [IntKind.wrap_i64]; omega
  have hb1 : (0 : Int) ≤ (i : Int) + 1 := by omega
  have hin : i ≤ n := by omega
  have htn : ((i : Int) + 1).toNat = i + 1 := by omega
  have hb3 : (i : Int) ≤ (n : Int) := by omega
  clear hkk hik hold hROW hG hRl
  go_enter Try.func33, Try.ntmps33
  go_wp2_with (first
    | (at_builtin; refine Lib.wpList_append_run _ rfl _ _ _ _ rfl _ _ rfl rfl _ _ (hrz _) ?_)
    | (at_builtin; refine wpList_copy_runI _ rfl _ _ 22 22 rfl _ _ rfl rfl (hcpA _ hE1 hE2 _ _) ?_)
    | (at_builtin; refine wpList_copy_runI _ rfl _ _ 22 22 rfl _ _ rfl rfl (hcpB _ (fun _ => rfl) (fun _ => rfl) _ _ _) ?_))
  go_region_law_o (refine step_copy_runI rfl _ _ 22 22 rfl (.slice (some ⟨w.heap.size, (i + 1) * 6, none⟩) (n - i) (G - (i + 1))) (.slice (some ⟨b, i * 6, none⟩) (n - i) (c - i)) (by simp [Act.eval, Act.put]) (by simp [Act.eval, Act.put]) (hcpB _ hF1 hF2 3 (G - (i + 1)) (c - i)) ?_)
  go_wp2
  go_ret
  exact ⟨rfl, rfl⟩

theorem ct_slices_Insert_Version (s_0 : List Api_Version) (i_1 : Int) (v_2 : List Api_Version) (r : List Api_Version) (hF : slices_Insert_Version s_0 i_1 v_2 = some r) : Ct Try.prog 33 [.row 28 6 (List.map encApi_Version s_0), .g (.d (.v (.int .i64 i_1))), .g (.d (.sl 6 (List.map encApi_Version v_2)))] (.new 28 6 (List.map encApi_Version r)) := by
  unfold slices_Insert_Version at hF
  obtain ⟨x, k, rfl, rfl, hk, hm, hb, rfl⟩ := insL_ok hF
  have hml : maxLen = 9223372036854775807 := rfl
  have h := ct_insert (P := Try.prog) (f := 33) (E := 28) (z := 6) (es := List.map encApi_Version s_0) (x := encApi_Version x) (i := k) (by simpa using hk) rfl
    (fun hnil w a vb vo vc vs hV => by
      have hs : s_0 = [] := by simpa using hnil
      subst hs
      have hk0 : k = 0 := by simpa using hk
      subst hk0
      refine (insEnd33 a 0 0 vb vo vc [] vs w (Nat.le_refl _) (by omega) (by omega) rfl hV.len (fun _ => rfl) (fun _ _ j v h => by simp at h) hV.cell hV.one).mono fun e w' ⟨h1, h2⟩ => ⟨_, h1, ?_⟩
      subst h2
      exact InsR.fresh (n := 0) (by simp [hV.len]) (zeroCells_size _ _) (grownCap_ge w _ _ _) (grownCap_le_maxLen w _ _ _ (by rw [hml]; omega)))
    (fun w b c cur vb vo vc vs hh hc hle hm2 hone hV => by
      have hl : (List.map encApi_Version s_0).length = s_0.length := by simp
      rw [hl] at hle hone ⊢
      have hbc : s_0.length * 6 ≤ cur.size := by rw [hc]; exact Nat.mul_le_mul_right _ hle
      have hcl : (cur.toList.take (s_0.length * 6)).length = s_0.length * 6 := by have := Array.length_toList (xs := cur); rw [List.length_take]; omega
      have hcs : ∀ j v, (cur.toList.take (s_0.length * 6))[j]? = some v → w.cell? ⟨b, j, none⟩ = some v := fun j v hj => by
        have hlt := (List.getElem?_eq_some_iff.1 hj).1
        rw [hcl] at hlt
        rw [List.getElem?_take_of_lt hlt, Array.getElem?_toList] at hj
        rw [cell_of_cells hh]; exact hj
      have h1c : ∀ v ∈ cur.toList.take (s_0.length * 6), v.oneCell' = true := fun v hv => by
        obtain ⟨j, hj, e⟩ := List.getElem_of_mem hv
        have hg := List.getElem?_eq_getElem hj
        rw [hcl] at hj
        rw [e, List.getElem?_take_of_lt hj, Array.getElem?_toList] at hg
        exact hone j v hj hg
      have hvb : vb ≠ b := fun c => hV.apart (by rw [c])
      by_cases hr : s_0.length + 1 ≤ c
      · have hbr : (s_0.length + 1) * 6 ≤ cur.size := by rw [hc]; exact Nat.mul_le_mul_right _ hr
        have hsp : ∀ j, j < (s_0.length + 1) * 6 → (w.cell? ⟨b, j, none⟩).isSome = true := fun j hj => by
          rw [cell_of_cells hh, Array.getElem?_eq_getElem (by omega)]; rfl
        have hfz : ∀ j, w.frozen? ⟨b, j, none⟩ = false := fun j => by simp [World.frozen?, hh]
        by_cases hi : k = s_0.length
        · subst hi
          refine (insRoom33 b _ c vb vo vc vs w hr (by omega) hV.len (fun j hj => hsp _ (by omega)) (fun j _ => hfz _) hV.cell hV.one).mono fun e w' ⟨h1, h2⟩ => ⟨_, h1, ?_⟩
          subst h2
          exact InsR.room hh hc hr hm2 hV.len
        · obtain ⟨tv, kv, hs1, hs2⟩ := hV.shape
          refine (insShift33 b _ c k vb vo vc _ vs w (by omega) hr (by omega) hvb hcl hV.len hcs hsp (fun j _ => hfz j) hV.cell h1c hV.one (fun lb cb => insExt33 _ w w _ ?_)).mono fun e w' ⟨h1, h2⟩ => ⟨_, h1, ?_⟩
          · exact run_overlaps_plain w 22 4 28 Try.underlying22 6 Try.sizeOf28 _ _ 1 vc lb cb hvb tv 28 kv cur.size hs1 (by simp [World.shape?, hh]) hs2 (by omega) (hfz _) (by simp [World.frozen?, hh])
          · subst h2
            exact InsR.shift hh hc (by omega) hr hm2 hV.len
      · by_cases hi : k = s_0.length
        · subst hi
          refine (insEnd33 (some ⟨b, 0, none⟩) _ c vb vo vc _ vs w hle (by omega) hb hcl hV.len (fun c => (by cases c)) (fun a ha j v hj => by cases ha; rw [Addr.add_lit, Nat.zero_add]; exact hcs j v hj) hV.cell hV.one).mono fun e w' ⟨h1, h2⟩ => ⟨_, h1, ?_⟩
          subst h2
          rw [List.take_of_length_le (by rw [hcl]; exact Nat.le_refl _), List.drop_of_length_le (by rw [hcl]; exact Nat.le_refl _), List.append_nil]
          exact InsR.fresh (by rw [List.length_append, hcl, hV.len]; omega) (zeroCells_size _ _) (grownCap_ge w _ _ _) (grownCap_le_maxLen w _ _ _ (by rw [hml]; omega))
        · refine (insGrow33 b _ c k vb vo vc _ vs w (by omega) hle (by omega) hb hcl hV.len hcs hV.cell h1c hV.one).mono fun e w' ⟨h1, h2⟩ => ⟨_, h1, ?_⟩
          subst h2
          exact InsR.grow hcl (by omega) hV.len (zeroCells_size _ _) (zeroCells_size _ _) (grownCap_ge w _ _ _) (grownCap_le_maxLen w _ _ _ (by rw [hml]; omega)))
  rw [insL_map]
  exact h


set_option maxRecDepth 20000 in
set_option maxHeartbeats 2000000 in
theorem ct_chain_Put (l_0 : (List Api_Version)) (v_1 : Api_Version) (r : ((List Api_Version) × Bool)) (hF : chain_Put l_0 v_1 = some r) : Ct Try.prog 19 [.g (.d (.sl 6 (List.map encApi_Version l_0))), .g (.agg (encApi_Version v_1))] (.tup [.d (.sl 6 (List.map encApi_Version r.1)), .d (.v (.bool r.2))]) := by
  unfold chain_Put at hF
  refine Ct.intro Try.func19 rfl Try.ntmps19 rfl rfl fun M w => ?_
  refine G.seq ?_
  refine G.region ?_
  refine G.op2 (op_boxA (k := 1003) (Ev.t 1 (.g (.agg [.v (.string v_1.Key), .v (.string v_1.Value), .v (.bool v_1.Gone), .v (.int .i64 v_1.Stamp.N), .v (.int .i64 v_1.Stamp.Site), .sl 3 (List.map encApi_Dep v_1.Past)]))) rfl) rfl ⟨rfl, trivial⟩ ⟨rfl, trivial⟩ ?_
  refine G.op1 (op_assign (Ev.n 6) rfl) rfl trivial trivial ?_
  refine G.op1 (op_assign (Ev.c _ rfl) rfl) rfl trivial trivial ?_
  refine G.endOps ?_
  refine G.seq ?_
  refine G.region ?_
  refine G.op1 (op_move (Ev.t 0 (.g (.d (.sl 6 (List.map encApi_Version l_0))))) rfl) rfl ⟨rfl, trivial⟩ trivial ?_
  refine G.op1 (op_fieldP (off' := 3) Try.underlying28 rfl ti25 (by decide) rfl (Ev.t 3 (.ptr 1003 0)) rfl) rfl ⟨rfl, trivial⟩ trivial ?_
  refine G.op1 (op_loadAP (ds := [.v (.int .i64 v_1.Stamp.N), .v (.int .i64 v_1.Stamp.Site)]) Try.underlying25 rfl ti25 rfl (Ev.t 8 (.ptr 1003 3)) rfl) rfl ⟨rfl, trivial⟩ ⟨rfl, trivial⟩ ?_
  obtain ⟨r1, hr1, hF⟩ := bindS hF
  refine G.op1 (op_callQ (sv := .one (bI .i64 r1)) cf32 (ct_chain_from l_0 v_1.Stamp r1 hr1) rfl rfl (EvQL.cons (EvQ.g (Ev.t 7 (.g (.d (.sl 6 (List.map encApi_Version l_0)))))) (EvQL.cons (EvQ.g (Ev.t 9 (.g (.agg [.v (.int .i64 v_1.Stamp.N), .v (.int .i64 v_1.Stamp.Site)])))) EvQL.nil)) rfl) rfl ⟨rfl, rfl, trivial⟩ trivial ?_
  refine G.op1 (op_assign (Ev.t 10 (bI .i64 r1)) rfl) rfl ⟨rfl, trivial⟩ trivial ?_
  refine G.endOps ?_
  refine G.seq ?_
  refine G.seq ?_
  refine G.joinC (T := Bool) (fun y2 => ⟨[(0, .one (.g (.d (.sl 6 (List.map encApi_Version l_0))))), (3, .one (.ptr 1003 0)), (6, .one (bI .i64 r1)), (43, .one (bB y2))], [(1003, some (.blk 28 [bS v_1.Key, bS v_1.Value, bB v_1.Gone, bI .i64 v_1.Stamp.N, bI .i64 v_1.Stamp.Site, .g (.d (.sl 3 (List.map encApi_Dep v_1.Past)))]))]⟩) (fun y2 => chain_Put_k1 l_0 v_1 r1 y2 = some r) (fun y2 hF => ?_) (fun J6 => ?_)
  · unfold chain_Put_k1 at hF
    refine ifS hF (fun hc3 hF => ?_) (fun hc3 hF => ?_)
    · refine G.cond rfl (fun _ => ?_) (fun hx => by rw [hc3] at hx; cases hx)
      refine G.seq ?_
      refine G.region ?_
      refine G.op1 (op_move (Ev.t 0 (.g (.d (.sl 6 (List.map encApi_Version l_0))))) rfl) rfl ⟨rfl, trivial⟩ trivial ?_
      refine G.op1 (op_assign (Ev.t 44 (.g (.d (.sl 6 (List.map encApi_Version l_0))))) rfl) rfl ⟨rfl, trivial⟩ trivial ?_
      refine G.op1 (op_assign (Ev.c _ rfl) rfl) rfl trivial trivial ?_
      refine G.endOps ?_
      cases hF
      exact G.ret2 Try.results19 (RVar.tmp 4 _) (RVar.tmp 5 _) ⟨rfl, rfl, trivial⟩ trivial
    · refine G.cond rfl (fun hx => by rw [hc3] at hx; cases hx) (fun _ => ?_)
      refine G.skip ?_
      refine G.seq ?_
      obtain ⟨r4, hr4, hF⟩ := bindS hF
      obtain ⟨r5, hr5, hF⟩ := bindS hF
      refine G.drawn (effs := [⟨[(0, .one (.g (.d (.sl 6 (List.map encApi_Version l_0)))))], [], [(45, .one (.g (.d (.sl 6 (List.map encApi_Version l_0)))))], []⟩, ⟨[(45, .one (.g (.d (.sl 6 (List.map encApi_Version l_0)))))], [(2046, none)], [(46, .one (.own 2046 (List.map encApi_Version r4)))], [(2046, some (.row 28 6 (List.map encApi_Version r4) true))]⟩, ⟨[(6, .one (bI .i64 r1))], [], [(47, .one (bI .i64 r1))], []⟩, ⟨[(3, .one (.ptr 1003 0))], [(1003, some (.blk 28 [bS v_1.Key, bS v_1.Value, bB v_1.Gone, bI .i64 v_1.Stamp.N, bI .i64 v_1.Stamp.Site, .g (.d (.sl 3 (List.map encApi_Dep v_1.Past)))]))], [(48, .one (.g (.agg [.v (.string v_1.Key), .v (.string v_1.Value), .v (.bool v_1.Gone), .v (.int .i64 v_1.Stamp.N), .v (.int .i64 v_1.Stamp.Site), .sl 3 (List.map encApi_Dep v_1.Past)])))], []⟩, ⟨[(48, .one (.g (.agg [.v (.string v_1.Key), .v (.string v_1.Value), .v (.bool v_1.Gone), .v (.int .i64 v_1.Stamp.N), .v (.int .i64 v_1.Stamp.Site), .sl 3 (List.map encApi_Dep v_1.Past)])))], [], [(49, .one (.g (.d (.sl 6 (List.map encApi_Version ([v_1]))))))], []⟩, ⟨[(46, .one (.own 2046 (List.map encApi_Version r4))), (47, .one (bI .i64 r1)), (49, .one (.g (.d (.sl 6 (List.map encApi_Version ([v_1]))))))], [(2046, some (.row 28 6 (List.map encApi_Version r4) true))], [(50, .one (.g (.d (.sl 6 (List.map encApi_Version r5)))))], [(2046, some (.row 28 6 (List.map encApi_Version r5) false))]⟩, ⟨[(50, .one (.g (.d (.sl 6 (List.map encApi_Version r5)))))], [], [(4, .one (.g (.d (.sl 6 (List.map encApi_Version r5)))))], []⟩, ⟨[], [], [(5, .one (bB true))], []⟩]) (deps := [[], [0], [], [], [3], [0, 1, 2, 3, 4], [0, 1, 2, 3, 4, 5], [0, 1, 2, 3, 4, 5, 6]]) (sl' := [(4, .one (.g (.d (.sl 6 (List.map encApi_Version r5))))), (5, .one (bB true))]) (hp' := []) follows rfl rfl rfl ⟨⟨rfl, trivial⟩, trivial, ⟨rfl, trivial⟩, ⟨⟨rfl, rfl⟩, trivial⟩, ⟨rfl, trivial⟩, trivial, ⟨rfl, trivial⟩, ⟨⟨rfl, rfl⟩, trivial⟩, ⟨rfl, trivial⟩, trivial, ⟨rfl, rfl, rfl, trivial⟩, ⟨⟨rfl, rfl⟩, trivial⟩, ⟨rfl, trivial⟩, trivial, trivial, trivial, trivial⟩ ⟨OpW.plain (op_move (Ev.t 0 (.g (.d (.sl 6 (List.map encApi_Version l_0))))) rfl) rfl rfl, OpW.plain (op_callNew (k := 2046) cf27 (ct_slices_Clone_Version l_0 r4 hr4) (EvL.cons (Ev.t 45 (.g (.d (.sl 6 (List.map encApi_Version l_0))))) EvL.nil) rfl) rfl rfl, OpW.plain (op_move (Ev.t 6 (bI .i64 r1)) rfl) rfl rfl, OpW.plain (op_loadAP (ds := [.v (.string v_1.Key), .v (.string v_1.Value), .v (.bool v_1.Gone), .v (.int .i64 v_1.Stamp.N), .v (.int .i64 v_1.Stamp.Site), .sl 3 (List.map encApi_Dep v_1.Past)]) Try.underlying28 rfl ti28 rfl (Ev.t 3 (.ptr 1003 0)) rfl) rfl rfl, OpW.plain (op_buildSlice (es := List.map encApi_Version [v_1]) Try.underlying22 ti28 rfl rfl (EvP.cons (Ev.t 48 (.g (.agg [.v (.string v_1.Key), .v (.string v_1.Value), .v (.bool v_1.Gone), .v (.int .i64 v_1.Stamp.N), .v (.int .i64 v_1.Stamp.Site), .sl 3 (List.map encApi_Dep v_1.Past)]))) EvP.nil) rfl rfl (by simp [encApi_Version]) rfl) rfl rfl, OpW.plain (OpL.view (OpL.share (op_callGrow cf33 (ct_slices_Insert_Version r4 r1 ([v_1]) r5 hr5) (insL_len hr5) (Ev.t 46 (.own 2046 (List.map encApi_Version r4))) (EvX.g (Ev.t 47 (bI .i64 r1)) (EvX.g (Ev.t 49 (.g (.d (.sl 6 (List.map encApi_Version ([v_1])))))) EvX.nil)) rfl))) rfl rfl, OpW.plain (op_assign (Ev.t 50 (.g (.d (.sl 6 (List.map encApi_Version r5))))) rfl) rfl rfl, OpW.plain (op_assign (Ev.c _ rfl) rfl) rfl rfl, trivial⟩ ⟨rfl, rfl, trivial⟩ trivial rfl ?_
      cases hF
      exact G.ret2 Try.results19 (RVar.tmp 4 _) (RVar.tmp 5 _) ⟨rfl, rfl, trivial⟩ trivial
  obtain ⟨r7, hr7, hF⟩ := bindS hF
  refine ifS hF (fun hc8 hF => ?_) (fun hc8 hF => ?_)
  · refine G.drawn (effs := (⟨[(3, .one (.ptr 1003 0))], [(1003, some (.blk 28 [bS v_1.Key, bS v_1.Value, bB v_1.Gone, bI .i64 v_1.Stamp.N, bI .i64 v_1.Stamp.Site, .g (.d (.sl 3 (List.map encApi_Dep v_1.Past)))]))], [(11, .one (.g (.agg [.v (.string v_1.Key), .v (.string v_1.Value), .v (.bool v_1.Gone), .v (.int .i64 v_1.Stamp.N), .v (.int .i64 v_1.Stamp.Site), .sl 3 (List.map encApi_Dep v_1.Past)])))], []⟩ :: ⟨[(11, .one (.g (.agg [.v (.string v_1.Key), .v (.string v_1.Value), .v (.bool v_1.Gone), .v (.int .i64 v_1.Stamp.N), .v (.int .i64 v_1.Stamp.Site), .sl 3 (List.map encApi_Dep v_1.Past)])))], [], [(12, .one (bB r7))], []⟩ :: ⟨[(12, .one (bB r7))], [], [(13, .one (bB true))], []⟩ :: ⟨[(13, .one (bB true))], [], [(14, .one (bB true))], []⟩ :: ⟨[(14, .one (bB true))], [], [(15, .one (.x Go.undef))], []⟩ :: ⟨[(14, .one (bB true))], [], [(16, .one (.x Go.undef))], []⟩ :: ⟨[(14, .one (bB true))], [], [(17, .one (.x Go.undef))], []⟩ :: ⟨[(14, .one (bB true))], [], [(18, .one (.x Go.undef))], []⟩ :: ⟨[(18, .one (.x Go.undef))], [], [(19, .one (.x Go.undef))], []⟩ :: ⟨[(18, .one (.x Go.undef))], [], [(20, .one (.x Go.undef))], []⟩ :: ⟨[(18, .one (.x Go.undef))], [], [(21, .one (.x Go.undef))], []⟩ :: ⟨[(18, .one (.x Go.undef))], [], [(22, .one (.x Go.undef))], []⟩ :: ⟨[(18, .one (.x Go.undef))], [], [(23, .one (.x Go.undef))], []⟩ :: ⟨[(18, .one (.x Go.undef))], [], [(24, .one (.x Go.undef))], []⟩ :: ⟨[(18, .one (.x Go.undef))], [], [(25, .one (.x Go.undef))], []⟩ :: ⟨[(14, .one (bB true))], [], [(26, .one (.x Go.undef))], []⟩ :: ⟨[(14, .one (bB true))], [], [(27, .one (bB true))], []⟩ :: ⟨[(27, .one (bB true))], [], [(28, .one (bB true))], []⟩ :: ⟨[(28, .one (bB true))], [], [(29, .one (.x Go.undef))], []⟩ :: ⟨[(28, .one (bB true))], [], [(30, .one (.x Go.undef))], []⟩ :: ⟨[(28, .one (bB true))], [], [(31, .one (.x Go.undef))], []⟩ :: ⟨[(28, .one (bB true))], [], [(32, .one (.x Go.undef))], []⟩ :: ⟨[(28, .one (bB true))], [], [(33, .one (.x Go.undef))], []⟩ :: ⟨[(33, .one (.x Go.undef))], [], [(34, .one (.x Go.undef))], []⟩ :: ⟨[(33, .one (.x Go.undef))], [], [(35, .one (.x Go.undef))], []⟩ :: ⟨[(33, .one (.x Go.undef))], [], [(36, .one (.x Go.undef))], []⟩ :: ⟨[(33, .one (.x Go.undef))], [], [(37, .one (.x Go.undef))], []⟩ :: ⟨[(33, .one (.x Go.undef))], [], [(38, .one (.x Go.undef))], []⟩ :: ⟨[(33, .one (.x Go.undef))], [], [(39, .one (.x Go.undef))], []⟩ :: ⟨[(33, .one (.x Go.undef))], [], [(40, .one (.x Go.undef))], []⟩ :: ⟨[(33, .one (.x Go.undef))], [], [(41, .one (.x Go.undef))], []⟩ :: ⟨[(28, .one (bB true))], [], [(42, .one (.x Go.undef))], []⟩ :: ⟨[(28, .one (bB true))], [], [(43, .one (bB true))], []⟩ :: [])) (deps := ([] :: [0] :: [0, 1] :: [0, 1, 2] :: [0, 1, 2, 3] :: [0, 1, 2, 3, 4] :: [0, 1, 2, 3, 4, 5] :: [0, 1, 2, 3, 4, 5, 6] :: [0, 1, 2, 3, 4, 5, 6, 7] :: [0, 1, 2, 3, 4, 5, 6, 7, 8] :: [0, 1, 2, 3, 4, 5, 6, 7, 8, 9] :: [0, 1, 2, 3, 4, 5, 6, 7, 8, 9, 10] :: [0, 1, 2, 3, 4, 5, 6, 7] :: [0, 1, 2, 3, 4, 5, 6, 7, 12] :: [0, 1, 2, 3, 4, 5, 6, 7, 8, 9, 10, 11, 12, 13] :: [0, 1, 2, 3, 4, 5, 6, 7, 8, 9, 10, 11, 12, 13, 14] :: [0, 1, 2, 3, 4, 5, 6, 7, 8, 9, 10, 11, 12, 13, 14, 15] :: [0, 1, 2, 3, 4, 5, 6, 7, 8, 9, 10, 11, 12, 13, 14, 15, 16] :: [0, 1, 2, 3, 4, 5, 6, 7, 8, 9, 10, 11, 12, 13, 14, 15, 16, 17] :: [0, 1, 2, 3, 4, 5, 6, 7, 8, 9, 10, 11, 12, 13, 14, 15, 16, 17] :: [0, 1, 2, 3, 4, 5, 6, 7, 8, 9, 10, 11, 12, 13, 14, 15, 16, 17, 19] :: (0 :: 1 :: 2 :: 3 :: 4 :: 5 :: 6 :: 7 :: 8 :: 9 :: 10 :: 11 :: 12 :: 13 :: 14 :: 15 :: 16 :: 17 :: 18 :: 19 :: 20 :: []) :: (0 :: 1 :: 2 :: 3 :: 4 :: 5 :: 6 :: 7 :: 8 :: 9 :: 10 :: 11 :: 12 :: 13 :: 14 :: 15 :: 16 :: 17 :: 18 :: 19 :: 20 :: 21 :: []) :: (0 :: 1 :: 2 :: 3 :: 4 :: 5 :: 6 :: 7 :: 8 :: 9 :: 10 :: 11 :: 12 :: 13 :: 14 :: 15 :: 16 :: 17 :: 18 :: 19 :: 20 :: 21 :: 22 :: []) :: (0 :: 1 :: 2 :: 3 :: 4 :: 5 :: 6 :: 7 :: 8 :: 9 :: 10 :: 11 :: 12 :: 13 :: 14 :: 15 :: 16 :: 17 :: 18 :: 19 :: 20 :: 21 :: 22 :: []) :: (0 :: 1 :: 2 :: 3 :: 4 :: 5 :: 6 :: 7 :: 8 :: 9 :: 10 :: 11 :: 12 :: 13 :: 14 :: 15 :: 16 :: 17 :: 18 :: 19 :: 20 :: 21 :: 22 :: 23 :: 24 :: []) :: (0 :: 1 :: 2 :: 3 :: 4 :: 5 :: 6 :: 7 :: 8 :: 9 :: 10 :: 11 :: 12 :: 13 :: 14 :: 15 :: 16 :: 17 :: 18 :: 19 :: 20 :: 21 :: 22 :: 23 :: 24 :: 25 :: []) :: (0 :: 1 :: 2 :: 3 :: 4 :: 5 :: 6 :: 7 :: 8 :: 9 :: 10 :: 11 :: 12 :: 13 :: 14 :: 15 :: 16 :: 17 :: 18 :: 19 :: 20 :: 21 :: 22 :: 23 :: 24 :: 25 :: 26 :: []) :: (0 :: 1 :: 2 :: 3 :: 4 :: 5 :: 6 :: 7 :: 8 :: 9 :: 10 :: 11 :: 12 :: 13 :: 14 :: 15 :: 16 :: 17 :: 18 :: 19 :: 20 :: 21 :: 22 :: []) :: (0 :: 1 :: 2 :: 3 :: 4 :: 5 :: 6 :: 7 :: 8 :: 9 :: 10 :: 11 :: 12 :: 13 :: 14 :: 15 :: 16 :: 17 :: 18 :: 19 :: 20 :: 21 :: 22 :: 28 :: []) :: (0 :: 1 :: 2 :: 3 :: 4 :: 5 :: 6 :: 7 :: 8 :: 9 :: 10 :: 11 :: 12 :: 13 :: 14 :: 15 :: 16 :: 17 :: 18 :: 19 :: 20 :: 21 :: 22 :: 23 :: 24 :: 25 :: 26 :: 27 :: 28 :: 29 :: []) :: (0 :: 1 :: 2 :: 3 :: 4 :: 5 :: 6 :: 7 :: 8 :: 9 :: 10 :: 11 :: 12 :: 13 :: 14 :: 15 :: 16 :: 17 :: 18 :: 19 :: 20 :: 21 :: 22 :: 23 :: 24 :: 25 :: 26 :: 27 :: 28 :: 29 :: 30 :: []) :: (0 :: 1 :: 2 :: 3 :: 4 :: 5 :: 6 :: 7 :: 8 :: 9 :: 10 :: 11 :: 12 :: 13 :: 14 :: 15 :: 16 :: 17 :: 18 :: 19 :: 20 :: 21 :: 22 :: 23 :: 24 :: 25 :: 26 :: 27 :: 28 :: 29 :: 30 :: 31 :: []) :: [])) (sl' := [(0, .one (.g (.d (.sl 6 (List.map encApi_Version l_0))))), (3, .one (.ptr 1003 0)), (6, .one (bI .i64 r1)), (43, .one (bB true))]) (hp' := [(1003, some (.blk 28 [bS v_1.Key, bS v_1.Value, bB v_1.Gone, bI .i64 v_1.Stamp.N, bI .i64 v_1.Stamp.Site, .g (.d (.sl 3 (List.map encApi_Dep v_1.Past)))]))]) follows rfl rfl rfl ⟨⟨rfl, trivial⟩, ⟨⟨rfl, rfl⟩, trivial⟩, ⟨rfl, trivial⟩, trivial, ⟨rfl, trivial⟩, trivial, ⟨rfl, trivial⟩, trivial, ⟨rfl, trivial⟩, trivial, ⟨rfl, trivial⟩, trivial, ⟨rfl, trivial⟩, trivial, ⟨rfl, trivial⟩, trivial, ⟨rfl, trivial⟩, trivial, ⟨rfl, trivial⟩, trivial, ⟨rfl, trivial⟩, trivial, ⟨rfl, trivial⟩, trivial, ⟨rfl, trivial⟩, trivial, ⟨rfl, trivial⟩, trivial, ⟨rfl, trivial⟩, trivial, ⟨rfl, trivial⟩, trivial, ⟨rfl, trivial⟩, trivial, ⟨rfl, trivial⟩, trivial, ⟨rfl, trivial⟩, trivial, ⟨rfl, trivial⟩, trivial, ⟨rfl, trivial⟩, trivial, ⟨rfl, trivial⟩, trivial, ⟨rfl, trivial⟩, trivial, ⟨rfl, trivial⟩, trivial, ⟨rfl, trivial⟩, trivial, ⟨rfl, trivial⟩, trivial, ⟨rfl, trivial⟩, trivial, ⟨rfl, trivial⟩, trivial, ⟨rfl, trivial⟩, trivial, ⟨rfl, trivial⟩, trivial, ⟨rfl, trivial⟩, trivial, ⟨rfl, trivial⟩, trivial, ⟨rfl, trivial⟩, trivial, trivial⟩ ⟨OpW.plain (op_loadAP (ds := [.v (.string v_1.Key), .v (.string v_1.Value), .v (.bool v_1.Gone), .v (.int .i64 v_1.Stamp.N), .v (.int .i64 v_1.Stamp.Site), .sl 3 (List.map encApi_Dep v_1.Past)]) Try.underlying28 rfl ti28 rfl (Ev.t 3 (.ptr 1003 0)) rfl) rfl rfl, OpW.plain (op_callQ (sv := .one (bB r7)) cf22 (ct_wire_Check v_1 r7 hr7) rfl rfl (EvQL.cons (EvQ.g (Ev.t 11 (.g (.agg [.v (.string v_1.Key), .v (.string v_1.Value), .v (.bool v_1.Gone), .v (.int .i64 v_1.Stamp.N), .v (.int .i64 v_1.Stamp.Site), .sl 3 (List.map encApi_Dep v_1.Past)])))) EvQL.nil) rfl) rfl rfl, OpW.plain (OpL.cast (op_not (Ev.t 12 (bB r7)) rfl) (congrArg (fun b => bB b) hc8)) rfl rfl, OpW.plain (op_move (Ev.t 13 (bB true)) rfl) rfl rfl, OpW.no rfl rfl rfl rfl rfl, OpW.no rfl rfl rfl rfl rfl, OpW.no rfl rfl rfl rfl rfl, OpW.no rfl rfl rfl rfl rfl, OpW.un rfl rfl rfl rfl, OpW.un rfl rfl rfl rfl, OpW.un rfl rfl rfl rfl, OpW.un rfl rfl rfl rfl, OpW.un rfl rfl rfl rfl, OpW.un rfl rfl rfl rfl, OpW.un rfl rfl rfl rfl, OpW.no rfl rfl rfl rfl rfl, OpW.plain (op_pickT (Ev.t 14 (bB true)) (Ev.c _ rfl) rfl) rfl rfl, OpW.plain (op_move (Ev.t 27 (bB true)) rfl) rfl rfl, OpW.no rfl rfl rfl rfl rfl, OpW.no rfl rfl rfl rfl rfl, OpW.no rfl rfl rfl rfl rfl, OpW.no rfl rfl rfl rfl rfl, OpW.no rfl rfl rfl rfl rfl, OpW.un rfl rfl rfl rfl, OpW.un rfl rfl rfl rfl, OpW.un rfl rfl rfl rfl, OpW.un rfl rfl rfl rfl, OpW.un rfl rfl rfl rfl, OpW.un rfl rfl rfl rfl, OpW.un rfl rfl rfl rfl, OpW.un rfl rfl rfl rfl, OpW.no rfl rfl rfl rfl rfl, OpW.plain (op_pickT (Ev.t 28 (bB true)) (Ev.c _ rfl) rfl) rfl rfl, trivial⟩ ⟨rfl, rfl, rfl, rfl, trivial⟩ ⟨rfl, trivial⟩ rfl ?_
    exact G.arr (J6 true hF) ⟨rfl, rfl, rfl, rfl, trivial⟩ ⟨rfl, trivial⟩ rfl
  · refine ifS hF (fun hc9 hF => ?_) (fun hc9 hF => ?_)
    · obtain ⟨x10, hx10, hF⟩ := bindS hF
      refine ifS hF (fun hc11 hF => ?_) (fun hc11 hF => ?_)
      · refine G.drawn (effs := (⟨[(3, .one (.ptr 1003 0))], [(1003, some (.blk 28 [bS v_1.Key, bS v_1.Value, bB v_1.Gone, bI .i64 v_1.Stamp.N, bI .i64 v_1.Stamp.Site, .g (.d (.sl 3 (List.map encApi_Dep v_1.Past)))]))], [(11, .one (.g (.agg [.v (.string v_1.Key), .v (.string v_1.Value), .v (.bool v_1.Gone), .v (.int .i64 v_1.Stamp.N), .v (.int .i64 v_1.Stamp.Site), .sl 3 (List.map encApi_Dep v_1.Past)])))], []⟩ :: ⟨[(11, .one (.g (.agg [.v (.string v_1.Key), .v (.string v_1.Value), .v (.bool v_1.Gone), .v (.int .i64 v_1.Stamp.N), .v (.int .i64 v_1.Stamp.Site), .sl 3 (List.map encApi_Dep v_1.Past)])))], [], [(12, .one (bB r7))], []⟩ :: ⟨[(12, .one (bB r7))], [], [(13, .one (bB false))], []⟩ :: ⟨[(13, .one (bB false))], [], [(14, .one (bB false))], []⟩ :: ⟨[(14, .one (bB false)), (0, .one (.g (.d (.sl 6 (List.map encApi_Version l_0)))))], [], [(15, .one (.g (.d (.sl 6 (List.map encApi_Version l_0)))))], []⟩ :: ⟨[(14, .one (bB false)), (15, .one (.g (.d (.sl 6 (List.map encApi_Version l_0)))))], [], [(16, .one (bI .i64 (l_0.length : Int)))], []⟩ :: ⟨[(14, .one (bB false)), (16, .one (bI .i64 (l_0.length : Int)))], [], [(17, .one (bB true))], []⟩ :: ⟨[(14, .one (bB false)), (17, .one (bB true))], [], [(18, .one (bB true))], []⟩ :: ⟨[(18, .one (bB true)), (0, .one (.g (.d (.sl 6 (List.map encApi_Version l_0)))))], [], [(19, .one (.g (.d (.sl 6 (List.map encApi_Version l_0)))))], []⟩ :: ⟨[(18, .one (bB true)), (19, .one (.g (.d (.sl 6 (List.map encApi_Version l_0)))))], [], [(20, .one (.ep [.v (.string x10.Key), .v (.string x10.Value), .v (.bool x10.Gone), .v (.int .i64 x10.Stamp.N), .v (.int .i64 x10.Stamp.Site), .sl 3 (List.map encApi_Dep x10.Past)]))], []⟩ :: ⟨[(18, .one (bB true)), (20, .one (.ep [.v (.string x10.Key), .v (.string x10.Value), .v (.bool x10.Gone), .v (.int .i64 x10.Stamp.N), .v (.int .i64 x10.Stamp.Site), .sl 3 (List.map encApi_Dep x10.Past)]))], [], [(21, .one (.ep [.v (.string x10.Key), .v (.string x10.Value), .v (.bool x10.Gone), .v (.int .i64 x10.Stamp.N), .v (.int .i64 x10.Stamp.Site), .sl 3 (List.map encApi_Dep x10.Past)]))], []⟩ :: ⟨[(18, .one (bB true)), (21, .one (.ep [.v (.string x10.Key), .v (.string x10.Value), .v (.bool x10.Gone), .v (.int .i64 x10.Stamp.N), .v (.int .i64 x10.Stamp.Site), .sl 3 (List.map encApi_Dep x10.Past)]))], [], [(22, .one (bS x10.Key))], []⟩ :: ⟨[(18, .one (bB true)), (3, .one (.ptr 1003 0))], [], [(23, .one (.ptr 1003 0))], []⟩ :: ⟨[(18, .one (bB true)), (23, .one (.ptr 1003 0))], [(1003, some (.blk 28 [bS v_1.Key, bS v_1.Value, bB v_1.Gone, bI .i64 v_1.Stamp.N, bI .i64 v_1.Stamp.Site, .g (.d (.sl 3 (List.map encApi_Dep v_1.Past)))]))], [(24, .one (bS v_1.Key))], []⟩ :: ⟨[(18, .one (bB true)), (22, .one (bS x10.Key)), (24, .one (bS v_1.Key))], [], [(25, .one (bB true))], []⟩ :: ⟨[(14, .one (bB false)), (18, .one (bB true)), (25, .one (bB true))], [], [(26, .one (bB true))], []⟩ :: ⟨[(14, .one (bB false)), (26, .one (bB true))], [], [(27, .one (bB true))], []⟩ :: ⟨[(27, .one (bB true))], [], [(28, .one (bB true))], []⟩ :: ⟨[(28, .one (bB true))], [], [(29, .one (.x Go.undef))], []⟩ :: ⟨[(28, .one (bB true))], [], [(30, .one (.x Go.undef))], []⟩ :: ⟨[(28, .one (bB true))], [], [(31, .one (.x Go.undef))], []⟩ :: ⟨[(28, .one (bB true))], [], [(32, .one (.x Go.undef))], []⟩ :: ⟨[(28, .one (bB true))], [], [(33, .one (.x Go.undef))], []⟩ :: ⟨[(33, .one (.x Go.undef))], [], [(34, .one (.x Go.undef))], []⟩ :: ⟨[(33, .one (.x Go.undef))], [], [(35, .one (.x Go.undef))], []⟩ :: ⟨[(33, .one (.x Go.undef))], [], [(36, .one (.x Go.undef))], []⟩ :: ⟨[(33, .one (.x Go.undef))], [], [(37, .one (.x Go.undef))], []⟩ :: ⟨[(33, .one (.x Go.undef))], [], [(38, .one (.x Go.undef))], []⟩ :: ⟨[(33, .one (.x Go.undef))], [], [(39, .one (.x Go.undef))], []⟩ :: ⟨[(33, .one (.x Go.undef))], [], [(40, .one (.x Go.undef))], []⟩ :: ⟨[(33, .one (.x Go.undef))], [], [(41, .one (.x Go.undef))], []⟩ :: ⟨[(28, .one (bB true))], [], [(42, .one (.x Go.undef))], []⟩ :: ⟨[(28, .one (bB true))], [], [(43, .one (bB true))], []⟩ :: [])) (deps := ([] :: [0] :: [0, 1] :: [0, 1, 2] :: [0, 1, 2, 3] :: [0, 1, 2, 3, 4] :: [0, 1, 2, 3, 4, 5] :: [0, 1, 2, 3, 4, 5, 6] :: [0, 1, 2, 3, 4, 5, 6, 7] :: [0, 1, 2, 3, 4, 5, 6, 7, 8] :: [0, 1, 2, 3, 4, 5, 6, 7, 8, 9] :: [0, 1, 2, 3, 4, 5, 6, 7, 8, 9, 10] :: [0, 1, 2, 3, 4, 5, 6, 7] :: [0, 1, 2, 3, 4, 5, 6, 7, 12] :: [0, 1, 2, 3, 4, 5, 6, 7, 8, 9, 10, 11, 12, 13] :: [0, 1, 2, 3, 4, 5, 6, 7, 8, 9, 10, 11, 12, 13, 14] :: [0, 1, 2, 3, 4, 5, 6, 7, 8, 9, 10, 11, 12, 13, 14, 15] :: [0, 1, 2, 3, 4, 5, 6, 7, 8, 9, 10, 11, 12, 13, 14, 15, 16] :: [0, 1, 2, 3, 4, 5, 6, 7, 8, 9, 10, 11, 12, 13, 14, 15, 16, 17] :: [0, 1, 2, 3, 4, 5, 6, 7, 8, 9, 10, 11, 12, 13, 14, 15, 16, 17] :: [0, 1, 2, 3, 4, 5, 6, 7, 8, 9, 10, 11, 12, 13, 14, 15, 16, 17, 19] :: (0 :: 1 :: 2 :: 3 :: 4 :: 5 :: 6 :: 7 :: 8 :: 9 :: 10 :: 11 :: 12 :: 13 :: 14 :: 15 :: 16 :: 17 :: 18 :: 19 :: 20 :: []) :: (0 :: 1 :: 2 :: 3 :: 4 :: 5 :: 6 :: 7 :: 8 :: 9 :: 10 :: 11 :: 12 :: 13 :: 14 :: 15 :: 16 :: 17 :: 18 :: 19 :: 20 :: 21 :: []) :: (0 :: 1 :: 2 :: 3 :: 4 :: 5 :: 6 :: 7 :: 8 :: 9 :: 10 :: 11 :: 12 :: 13 :: 14 :: 15 :: 16 :: 17 :: 18 :: 19 :: 20 :: 21 :: 22 :: []) :: (0 :: 1 :: 2 :: 3 :: 4 :: 5 :: 6 :: 7 :: 8 :: 9 :: 10 :: 11 :: 12 :: 13 :: 14 :: 15 :: 16 :: 17 :: 18 :: 19 :: 20 :: 21 :: 22 :: []) :: (0 :: 1 :: 2 :: 3 :: 4 :: 5 :: 6 :: 7 :: 8 :: 9 :: 10 :: 11 :: 12 :: 13 :: 14 :: 15 :: 16 :: 17 :: 18 :: 19 :: 20 :: 21 :: 22 :: 23 :: 24 :: []) :: (0 :: 1 :: 2 :: 3 :: 4 :: 5 :: 6 :: 7 :: 8 :: 9 :: 10 :: 11 :: 12 :: 13 :: 14 :: 15 :: 16 :: 17 :: 18 :: 19 :: 20 :: 21 :: 22 :: 23 :: 24 :: 25 :: []) :: (0 :: 1 :: 2 :: 3 :: 4 :: 5 :: 6 :: 7 :: 8 :: 9 :: 10 :: 11 :: 12 :: 13 :: 14 :: 15 :: 16 :: 17 :: 18 :: 19 :: 20 :: 21 :: 22 :: 23 :: 24 :: 25 :: 26 :: []) :: (0 :: 1 :: 2 :: 3 :: 4 :: 5 :: 6 :: 7 :: 8 :: 9 :: 10 :: 11 :: 12 :: 13 :: 14 :: 15 :: 16 :: 17 :: 18 :: 19 :: 20 :: 21 :: 22 :: []) :: (0 :: 1 :: 2 :: 3 :: 4 :: 5 :: 6 :: 7 :: 8 :: 9 :: 10 :: 11 :: 12 :: 13 :: 14 :: 15 :: 16 :: 17 :: 18 :: 19 :: 20 :: 21 :: 22 :: 28 :: []) :: (0 :: 1 :: 2 :: 3 :: 4 :: 5 :: 6 :: 7 :: 8 :: 9 :: 10 :: 11 :: 12 :: 13 :: 14 :: 15 :: 16 :: 17 :: 18 :: 19 :: 20 :: 21 :: 22 :: 23 :: 24 :: 25 :: 26 :: 27 :: 28 :: 29 :: []) :: (0 :: 1 :: 2 :: 3 :: 4 :: 5 :: 6 :: 7 :: 8 :: 9 :: 10 :: 11 :: 12 :: 13 :: 14 :: 15 :: 16 :: 17 :: 18 :: 19 :: 20 :: 21 :: 22 :: 23 :: 24 :: 25 :: 26 :: 27 :: 28 :: 29 :: 30 :: []) :: (0 :: 1 :: 2 :: 3 :: 4 :: 5 :: 6 :: 7 :: 8 :: 9 :: 10 :: 11 :: 12 :: 13 :: 14 :: 15 :: 16 :: 17 :: 18 :: 19 :: 20 :: 21 :: 22 :: 23 :: 24 :: 25 :: 26 :: 27 :: 28 :: 29 :: 30 :: 31 :: []) :: [])) (sl' := [(0, .one (.g (.d (.sl 6 (List.map encApi_Version l_0))))), (3, .one (.ptr 1003 0)), (6, .one (bI .i64 r1)), (43, .one (bB true))]) (hp' := [(1003, some (.blk 28 [bS v_1.Key, bS v_1.Value, bB v_1.Gone, bI .i64 v_1.Stamp.N, bI .i64 v_1.Stamp.Site, .g (.d (.sl 3 (List.map encApi_Dep v_1.Past)))]))]) follows rfl rfl rfl ⟨⟨rfl, trivial⟩, ⟨⟨rfl, rfl⟩, trivial⟩, ⟨rfl, trivial⟩, trivial, ⟨rfl, trivial⟩, trivial, ⟨rfl, trivial⟩, trivial, ⟨rfl, rfl, trivial⟩, trivial, ⟨rfl, rfl, trivial⟩, trivial, ⟨rfl, rfl, trivial⟩, trivial, ⟨rfl, rfl, trivial⟩, trivial, ⟨rfl, rfl, trivial⟩, trivial, ⟨rfl, rfl, trivial⟩, trivial, ⟨rfl, rfl, trivial⟩, trivial, ⟨rfl, rfl, trivial⟩, trivial, ⟨rfl, rfl, trivial⟩, trivial, ⟨rfl, rfl, trivial⟩, ⟨⟨rfl, rfl⟩, trivial⟩, ⟨rfl, rfl, rfl, trivial⟩, trivial, ⟨rfl, rfl, rfl, trivial⟩, trivial, ⟨rfl, rfl, trivial⟩, trivial, ⟨rfl, trivial⟩, trivial, ⟨rfl, trivial⟩, trivial, ⟨rfl, trivial⟩, trivial, ⟨rfl, trivial⟩, trivial, ⟨rfl, trivial⟩, trivial, ⟨rfl, trivial⟩, trivial, ⟨rfl, trivial⟩, trivial, ⟨rfl, trivial⟩, trivial, ⟨rfl, trivial⟩, trivial, ⟨rfl, trivial⟩, trivial, ⟨rfl, trivial⟩, trivial, ⟨rfl, trivial⟩, trivial, ⟨rfl, trivial⟩, trivial, ⟨rfl, trivial⟩, trivial, ⟨rfl, trivial⟩, trivial, ⟨rfl, trivial⟩, trivial, trivial⟩ ⟨OpW.plain (op_loadAP (ds := [.v (.string v_1.Key), .v (.string v_1.Value), .v (.bool v_1.Gone), .v (.int .i64 v_1.Stamp.N), .v (.int .i64 v_1.Stamp.Site), .sl 3 (List.map encApi_Dep v_1.Past)]) Try.underlying28 rfl ti28 rfl (Ev.t 3 (.ptr 1003 0)) rfl) rfl rfl, OpW.plain (op_callQ (sv := .one (bB r7)) cf22 (ct_wire_Check v_1 r7 hr7) rfl rfl (EvQL.cons (EvQ.g (Ev.t 11 (.g (.agg [.v (.string v_1.Key), .v (.string v_1.Value), .v (.bool v_1.Gone), .v (.int .i64 v_1.Stamp.N), .v (.int .i64 v_1.Stamp.Site), .sl 3 (List.map encApi_Dep v_1.Past)])))) EvQL.nil) rfl) rfl rfl, OpW.plain (OpL.cast (op_not (Ev.t 12 (bB r7)) rfl) (congrArg (fun b => bB b) hc8)) rfl rfl, OpW.plain (op_move (Ev.t 13 (bB false)) rfl) rfl rfl, OpW.yes (op_move (Ev.t 0 (.g (.d (.sl 6 (List.map encApi_Version l_0))))) rfl) rfl rfl rfl, OpW.yes (OpL.cast (op_lenD Try.underlying22 (Ev.t 15 (.g (.d (.sl 6 (List.map encApi_Version l_0))))) rfl) (by rw [List.length_map])) rfl rfl rfl, OpW.yes (OpL.cast (op_gtr (Ev.t 16 (bI .i64 (l_0.length : Int))) (Ev.c _ rfl) rfl) (congrArg (fun b => bB b) hc9)) rfl rfl rfl, OpW.yes (op_move (Ev.t 17 (bB true)) rfl) rfl rfl rfl, OpW.yes (op_move (Ev.t 0 (.g (.d (.sl 6 (List.map encApi_Version l_0))))) rfl) rfl rfl rfl, OpW.yes (op_index (cs := [.v (.string x10.Key), .v (.string x10.Value), .v (.bool x10.Gone), .v (.int .i64 x10.Stamp.N), .v (.int .i64 x10.Stamp.Site), .sl 3 (List.map encApi_Dep x10.Past)]) Try.underlying22 ti28 (idx_ok hx10).1 (idx_get hx10 encApi_Version) (Ev.t 19 (.g (.d (.sl 6 (List.map encApi_Version l_0))))) (Ev.c _ rfl) rfl) rfl rfl rfl, OpW.yes (op_fieldE (cs' := [.v (.string x10.Key), .v (.string x10.Value), .v (.bool x10.Gone), .v (.int .i64 x10.Stamp.N), .v (.int .i64 x10.Stamp.Site), .sl 3 (List.map encApi_Dep x10.Past)]) Try.underlying28 rfl ti9 (by decide) rfl (Ev.t 20 (.ep [.v (.string x10.Key), .v (.string x10.Value), .v (.bool x10.Gone), .v (.int .i64 x10.Stamp.N), .v (.int .i64 x10.Stamp.Site), .sl 3 (List.map encApi_Dep x10.Past)])) rfl) rfl rfl rfl, OpW.yes (op_load1E (c := .v (.string x10.Key)) Try.underlying9 rfl rfl (Ev.t 21 (.ep [.v (.string x10.Key), .v (.string x10.Value), .v (.bool x10.Gone), .v (.int .i64 x10.Stamp.N), .v (.int .i64 x10.Stamp.Site), .sl 3 (List.map encApi_Dep x10.Past)])) rfl) rfl rfl rfl, OpW.yes (op_fieldP (off' := 0) Try.underlying28 rfl ti9 (by decide) rfl (Ev.t 3 (.ptr 1003 0)) rfl) rfl rfl rfl, OpW.yes (op_load1P (c := bS v_1.Key) Try.underlying9 rfl rfl (Ev.t 23 (.ptr 1003 0)) rfl) rfl rfl rfl, OpW.yes (OpL.cast (op_neS (Ev.t 22 (bS x10.Key)) (Ev.t 24 (bS v_1.Key)) rfl) (congrArg (fun b => bB b) hc11)) rfl rfl rfl, OpW.yes (op_pickT (Ev.t 18 (bB true)) (Ev.t 25 (bB true)) rfl) rfl rfl rfl, OpW.plain (op_pickF (Ev.t 14 (bB false)) (Ev.t 26 (bB true)) rfl) rfl rfl, OpW.plain (op_move (Ev.t 27 (bB true)) rfl) rfl rfl, OpW.no rfl rfl rfl rfl rfl, OpW.no rfl rfl rfl rfl rfl, OpW.no rfl rfl rfl rfl rfl, OpW.no rfl rfl rfl rfl rfl, OpW.no rfl rfl rfl rfl rfl, OpW.un rfl rfl rfl rfl, OpW.un rfl rfl rfl rfl, OpW.un rfl rfl rfl rfl, OpW.un rfl rfl rfl rfl, OpW.un rfl rfl rfl rfl, OpW.un rfl rfl rfl rfl, OpW.un rfl rfl rfl rfl, OpW.un rfl rfl rfl rfl, OpW.no rfl rfl rfl rfl rfl, OpW.plain (op_pickT (Ev.t 28 (bB true)) (Ev.c _ rfl) rfl) rfl rfl, trivial⟩ ⟨rfl, rfl, rfl, rfl, trivial⟩ ⟨rfl, trivial⟩ rfl ?_
        exact G.arr (J6 true hF) ⟨rfl, rfl, rfl, rfl, trivial⟩ ⟨rfl, trivial⟩ rfl
      · refine ifS hF (fun hc12 hF => ?_) (fun hc12 hF => ?_)
        · obtain ⟨x13, hx13, hF⟩ := bindS hF
          refine G.drawn (effs := (⟨[(3, .one (.ptr 1003 0))], [(1003, some (.blk 28 [bS v_1.Key, bS v_1.Value, bB v_1.Gone, bI .i64 v_1.Stamp.N, bI .i64 v_1.Stamp.Site, .g (.d (.sl 3 (List.map encApi_Dep v_1.Past)))]))], [(11, .one (.g (.agg [.v (.string v_1.Key), .v (.string v_1.Value), .v (.bool v_1.Gone), .v (.int .i64 v_1.Stamp.N), .v (.int .i64 v_1.Stamp.Site), .sl 3 (List.map encApi_Dep v_1.Past)])))], []⟩ :: ⟨[(11, .one (.g (.agg [.v (.string v_1.Key), .v (.string v_1.Value), .v (.bool v_1.Gone), .v (.int .i64 v_1.Stamp.N), .v (.int .i64 v_1.Stamp.Site), .sl 3 (List.map encApi_Dep v_1.Past)])))], [], [(12, .one (bB r7))], []⟩ :: ⟨[(12, .one (bB r7))], [], [(13, .one (bB false))], []⟩ :: ⟨[(13, .one (bB false))], [], [(14, .one (bB false))], []⟩ :: ⟨[(14, .one (bB false)), (0, .one (.g (.d (.sl 6 (List.map encApi_Version l_0)))))], [], [(15, .one (.g (.d (.sl 6 (List.map encApi_Version l_0)))))], []⟩ :: ⟨[(14, .one (bB false)), (15, .one (.g (.d (.sl 6 (List.map encApi_Version l_0)))))], [], [(16, .one (bI .i64 (l_0.length : Int)))], []⟩ :: ⟨[(14, .one (bB false)), (16, .one (bI .i64 (l_0.length : Int)))], [], [(17, .one (bB true))], []⟩ :: ⟨[(14, .one (bB false)), (17, .one (bB true))], [], [(18, .one (bB true))], []⟩ :: ⟨[(18, .one (bB true)), (0, .one (.g (.d (.sl 6 (List.map encApi_Version l_0)))))], [], [(19, .one (.g (.d (.sl 6 (List.map encApi_Version l_0)))))], []⟩ :: ⟨[(18, .one (bB true)), (19, .one (.g (.d (.sl 6 (List.map encApi_Version l_0)))))], [], [(20, .one (.ep [.v (.string x10.Key), .v (.string x10.Value), .v (.bool x10.Gone), .v (.int .i64 x10.Stamp.N), .v (.int .i64 x10.Stamp.Site), .sl 3 (List.map encApi_Dep x10.Past)]))], []⟩ :: ⟨[(18, .one (bB true)), (20, .one (.ep [.v (.string x10.Key), .v (.string x10.Value), .v (.bool x10.Gone), .v (.int .i64 x10.Stamp.N), .v (.int .i64 x10.Stamp.Site), .sl 3 (List.map encApi_Dep x10.Past)]))], [], [(21, .one (.ep [.v (.string x10.Key), .v (.string x10.Value), .v (.bool x10.Gone), .v (.int .i64 x10.Stamp.N), .v (.int .i64 x10.Stamp.Site), .sl 3 (List.map encApi_Dep x10.Past)]))], []⟩ :: ⟨[(18, .one (bB true)), (21, .one (.ep [.v (.string x10.Key), .v (.string x10.Value), .v (.bool x10.Gone), .v (.int .i64 x10.Stamp.N), .v (.int .i64 x10.Stamp.Site), .sl 3 (List.map encApi_Dep x10.Past)]))], [], [(22, .one (bS x10.Key))], []⟩ :: ⟨[(18, .one (bB true)), (3, .one (.ptr 1003 0))], [], [(23, .one (.ptr 1003 0))], []⟩ :: ⟨[(18, .one (bB true)), (23, .one (.ptr 1003 0))], [(1003, some (.blk 28 [bS v_1.Key, bS v_1.Value, bB v_1.Gone, bI .i64 v_1.Stamp.N, bI .i64 v_1.Stamp.Site, .g (.d (.sl 3 (List.map encApi_Dep v_1.Past)))]))], [(24, .one (bS v_1.Key))], []⟩ :: ⟨[(18, .one (bB true)), (22, .one (bS x10.Key)), (24, .one (bS v_1.Key))], [], [(25, .one (bB false))], []⟩ :: ⟨[(14, .one (bB false)), (18, .one (bB true)), (25, .one (bB false))], [], [(26, .one (bB false))], []⟩ :: ⟨[(14, .one (bB false)), (26, .one (bB false))], [], [(27, .one (bB false))], []⟩ :: ⟨[(27, .one (bB false))], [], [(28, .one (bB false))], []⟩ :: ⟨[(28, .one (bB false)), (6, .one (bI .i64 r1))], [], [(29, .one (bI .i64 r1))], []⟩ :: ⟨[(28, .one (bB false)), (0, .one (.g (.d (.sl 6 (List.map encApi_Version l_0)))))], [], [(30, .one (.g (.d (.sl 6 (List.map encApi_Version l_0)))))], []⟩ :: ⟨[(28, .one (bB false)), (30, .one (.g (.d (.sl 6 (List.map encApi_Version l_0)))))], [], [(31, .one (bI .i64 (l_0.length : Int)))], []⟩ :: ⟨[(28, .one (bB false)), (29, .one (bI .i64 r1)), (31, .one (bI .i64 (l_0.length : Int)))], [], [(32, .one (bB true))], []⟩ :: ⟨[(28, .one (bB false)), (32, .one (bB true))], [], [(33, .one (bB true))], []⟩ :: ⟨[(33, .one (bB true)), (0, .one (.g (.d (.sl 6 (List.map encApi_Version l_0)))))], [], [(34, .one (.g (.d (.sl 6 (List.map encApi_Version l_0)))))], []⟩ :: ⟨[(33, .one (bB true)), (6, .one (bI .i64 r1))], [], [(35, .one (bI .i64 r1))], []⟩ :: ⟨[(33, .one (bB true)), (34, .one (.g (.d (.sl 6 (List.map encApi_Version l_0))))), (35, .one (bI .i64 r1))], [], [(36, .one (.ep [.v (.string x13.Key), .v (.string x13.Value), .v (.bool x13.Gone), .v (.int .i64 x13.Stamp.N), .v (.int .i64 x13.Stamp.Site), .sl 3 (List.map encApi_Dep x13.Past)]))], []⟩ :: ⟨[(33, .one (bB true)), (36, .one (.ep [.v (.string x13.Key), .v (.string x13.Value), .v (.bool x13.Gone), .v (.int .i64 x13.Stamp.N), .v (.int .i64 x13.Stamp.Site), .sl 3 (List.map encApi_Dep x13.Past)]))], [], [(37, .one (.ep [.v (.int .i64 x13.Stamp.N), .v (.int .i64 x13.Stamp.Site), .sl 3 (List.map encApi_Dep x13.Past)]))], []⟩ :: ⟨[(33, .one (bB true)), (37, .one (.ep [.v (.int .i64 x13.Stamp.N), .v (.int .i64 x13.Stamp.Site), .sl 3 (List.map encApi_Dep x13.Past)]))], [], [(38, .one (.g (.agg [.v (.int .i64 x13.Stamp.N), .v (.int .i64 x13.Stamp.Site)])))], []⟩ :: ⟨[(33, .one (bB true)), (3, .one (.ptr 1003 0))], [], [(39, .one (.ptr 1003 3))], []⟩ :: ⟨[(33, .one (bB true)), (39, .one (.ptr 1003 3))], [(1003, some (.blk 28 [bS v_1.Key, bS v_1.Value, bB v_1.Gone, bI .i64 v_1.Stamp.N, bI .i64 v_1.Stamp.Site, .g (.d (.sl 3 (List.map encApi_Dep v_1.Past)))]))], [(40, .one (.g (.agg [.v (.int .i64 v_1.Stamp.N), .v (.int .i64 v_1.Stamp.Site)])))], []⟩ :: ⟨[(33, .one (bB true)), (38, .one (.g (.agg [.v (.int .i64 x13.Stamp.N), .v (.int .i64 x13.Stamp.Site)]))), (40, .one (.g (.agg [.v (.int .i64 v_1.Stamp.N), .v (.int .i64 v_1.Stamp.Site)])))], [], [(41, .one (bB (decide (x13.Stamp.N = v_1.Stamp.N) && decide (x13.Stamp.Site = v_1.Stamp.Site))))], []⟩ :: ⟨[(28, .one (bB false)), (33, .one (bB true)), (41, .one (bB (decide (x13.Stamp.N = v_1.Stamp.N) && decide (x13.Stamp.Site = v_1.Stamp.Site))))], [], [(42, .one (bB (decide (x13.Stamp.N = v_1.Stamp.N) && decide (x13.Stamp.Site = v_1.Stamp.Site))))], []⟩ :: ⟨[(28, .one (bB false)), (42, .one (bB (decide (x13.Stamp.N = v_1.Stamp.N) && decide (x13.Stamp.Site = v_1.Stamp.Site))))], [], [(43, .one (bB (decide (x13.Stamp.N = v_1.Stamp.N) && decide (x13.Stamp.Site = v_1.Stamp.Site))))], []⟩ :: [])) (deps := ([] :: [0] :: [0, 1] :: [0, 1, 2] :: [0, 1, 2, 3] :: [0, 1, 2, 3, 4] :: [0, 1, 2, 3, 4, 5] :: [0, 1, 2, 3, 4, 5, 6] :: [0, 1, 2, 3, 4, 5, 6, 7] :: [0, 1, 2, 3, 4, 5, 6, 7, 8] :: [0, 1, 2, 3, 4, 5, 6, 7, 8, 9] :: [0, 1, 2, 3, 4, 5, 6, 7, 8, 9, 10] :: [0, 1, 2, 3, 4, 5, 6, 7] :: [0, 1, 2, 3, 4, 5, 6, 7, 12] :: [0, 1, 2, 3, 4, 5, 6, 7, 8, 9, 10, 11, 12, 13] :: [0, 1, 2, 3, 4, 5, 6, 7, 8, 9, 10, 11, 12, 13, 14] :: [0, 1, 2, 3, 4, 5, 6, 7, 8, 9, 10, 11, 12, 13, 14, 15] :: [0, 1, 2, 3, 4, 5, 6, 7, 8, 9, 10, 11, 12, 13, 14, 15, 16] :: [0, 1, 2, 3, 4, 5, 6, 7, 8, 9, 10, 11, 12, 13, 14, 15, 16, 17] :: [0, 1, 2, 3, 4, 5, 6, 7, 8, 9, 10, 11, 12, 13, 14, 15, 16, 17] :: [0, 1, 2, 3, 4, 5, 6, 7, 8, 9, 10, 11, 12, 13, 14, 15, 16, 17, 19] :: (0 :: 1 :: 2 :: 3 :: 4 :: 5 :: 6 :: 7 :: 8 :: 9 :: 10 :: 11 :: 12 :: 13 :: 14 :: 15 :: 16 :: 17 :: 18 :: 19 :: 20 :: []) :: (0 :: 1 :: 2 :: 3 :: 4 :: 5 :: 6 :: 7 :: 8 :: 9 :: 10 :: 11 :: 12 :: 13 :: 14 :: 15 :: 16 :: 17 :: 18 :: 19 :: 20 :: 21 :: []) :: (0 :: 1 :: 2 :: 3 :: 4 :: 5 :: 6 :: 7 :: 8 :: 9 :: 10 :: 11 :: 12 :: 13 :: 14 :: 15 :: 16 :: 17 :: 18 :: 19 :: 20 :: 21 :: 22 :: []) :: (0 :: 1 :: 2 :: 3 :: 4 :: 5 :: 6 :: 7 :: 8 :: 9 :: 10 :: 11 :: 12 :: 13 :: 14 :: 15 :: 16 :: 17 :: 18 :: 19 :: 20 :: 21 :: 22 :: []) :: (0 :: 1 :: 2 :: 3 :: 4 :: 5 :: 6 :: 7 :: 8 :: 9 :: 10 :: 11 :: 12 :: 13 :: 14 :: 15 :: 16 :: 17 :: 18 :: 19 :: 20 :: 21 :: 22 :: 23 :: 24 :: []) :: (0 :: 1 :: 2 :: 3 :: 4 :: 5 :: 6 :: 7 :: 8 :: 9 :: 10 :: 11 :: 12 :: 13 :: 14 :: 15 :: 16 :: 17 :: 18 :: 19 :: 20 :: 21 :: 22 :: 23 :: 24 :: 25 :: []) :: (0 :: 1 :: 2 :: 3 :: 4 :: 5 :: 6 :: 7 :: 8 :: 9 :: 10 :: 11 :: 12 :: 13 :: 14 :: 15 :: 16 :: 17 :: 18 :: 19 :: 20 :: 21 :: 22 :: 23 :: 24 :: 25 :: 26 :: []) :: (0 :: 1 :: 2 :: 3 :: 4 :: 5 :: 6 :: 7 :: 8 :: 9 :: 10 :: 11 :: 12 :: 13 :: 14 :: 15 :: 16 :: 17 :: 18 :: 19 :: 20 :: 21 :: 22 :: []) :: (0 :: 1 :: 2 :: 3 :: 4 :: 5 :: 6 :: 7 :: 8 :: 9 :: 10 :: 11 :: 12 :: 13 :: 14 :: 15 :: 16 :: 17 :: 18 :: 19 :: 20 :: 21 :: 22 :: 28 :: []) :: (0 :: 1 :: 2 :: 3 :: 4 :: 5 :: 6 :: 7 :: 8 :: 9 :: 10 :: 11 :: 12 :: 13 :: 14 :: 15 :: 16 :: 17 :: 18 :: 19 :: 20 :: 21 :: 22 :: 23 :: 24 :: 25 :: 26 :: 27 :: 28 :: 29 :: []) :: (0 :: 1 :: 2 :: 3 :: 4 :: 5 :: 6 :: 7 :: 8 :: 9 :: 10 :: 11 :: 12 :: 13 :: 14 :: 15 :: 16 :: 17 :: 18 :: 19 :: 20 :: 21 :: 22 :: 23 :: 24 :: 25 :: 26 :: 27 :: 28 :: 29 :: 30 :: []) :: (0 :: 1 :: 2 :: 3 :: 4 :: 5 :: 6 :: 7 :: 8 :: 9 :: 10 :: 11 :: 12 :: 13 :: 14 :: 15 :: 16 :: 17 :: 18 :: 19 :: 20 :: 21 :: 22 :: 23 :: 24 :: 25 :: 26 :: 27 :: 28 :: 29 :: 30 :: 31 :: []) :: [])) (sl' := [(0, .one (.g (.d (.sl 6 (List.map encApi_Version l_0))))), (3, .one (.ptr 1003 0)), (6, .one (bI .i64 r1)), (43, .one (bB (decide (x13.Stamp.N = v_1.Stamp.N) && decide (x13.Stamp.Site = v_1.Stamp.Site))))]) (hp' := [(1003, some (.blk 28 [bS v_1.Key, bS v_1.Value, bB v_1.Gone, bI .i64 v_1.Stamp.N, bI .i64 v_1.Stamp.Site, .g (.d (.sl 3 (List.map encApi_Dep v_1.Past)))]))]) follows rfl rfl rfl ⟨⟨rfl, trivial⟩, ⟨⟨rfl, rfl⟩, trivial⟩, ⟨rfl, trivial⟩, trivial, ⟨rfl, trivial⟩, trivial, ⟨rfl, trivial⟩, trivial, ⟨rfl, rfl, trivial⟩, trivial, ⟨rfl, rfl, trivial⟩, trivial, ⟨rfl, rfl, trivial⟩, trivial, ⟨rfl, rfl, trivial⟩, trivial, ⟨rfl, rfl, trivial⟩, trivial, ⟨rfl, rfl, trivial⟩, trivial, ⟨rfl, rfl, trivial⟩, trivial, ⟨rfl, rfl, trivial⟩, trivial, ⟨rfl, rfl, trivial⟩, trivial, ⟨rfl, rfl, trivial⟩, ⟨⟨rfl, rfl⟩, trivial⟩, ⟨rfl, rfl, rfl, trivial⟩, trivial, ⟨rfl, rfl, rfl, trivial⟩, trivial, ⟨rfl, rfl, trivial⟩, trivial, ⟨rfl, trivial⟩, trivial, ⟨rfl, rfl, trivial⟩, trivial, ⟨rfl, rfl, trivial⟩, trivial, ⟨rfl, rfl, trivial⟩, trivial, ⟨rfl, rfl, rfl, trivial⟩, trivial, ⟨rfl, rfl, trivial⟩, trivial, ⟨rfl, rfl, trivial⟩, trivial, ⟨rfl, rfl, trivial⟩, trivial, ⟨rfl, rfl, rfl, trivial⟩, trivial, ⟨rfl, rfl, trivial⟩, trivial, ⟨rfl, rfl, trivial⟩, trivial, ⟨rfl, rfl, trivial⟩, trivial, ⟨rfl, rfl, trivial⟩, ⟨⟨rfl, rfl⟩, trivial⟩, ⟨rfl, rfl, rfl, trivial⟩, trivial, ⟨rfl, rfl, rfl, trivial⟩, trivial, ⟨rfl, rfl, trivial⟩, trivial, trivial⟩ ⟨OpW.plain (op_loadAP (ds := [.v (.string v_1.Key), .v (.string v_1.Value), .v (.bool v_1.Gone), .v (.int .i64 v_1.Stamp.N), .v (.int .i64 v_1.Stamp.Site), .sl 3 (List.map encApi_Dep v_1.Past)]) Try.underlying28 rfl ti28 rfl (Ev.t 3 (.ptr 1003 0)) rfl) rfl rfl, OpW.plain (op_callQ (sv := .one (bB r7)) cf22 (ct_wire_Check v_1 r7 hr7) rfl rfl (EvQL.cons (EvQ.g (Ev.t 11 (.g (.agg [.v (.string v_1.Key), .v (.string v_1.Value), .v (.bool v_1.Gone), .v (.int .i64 v_1.Stamp.N), .v (.int .i64 v_1.Stamp.Site), .sl 3 (List.map encApi_Dep v_1.Past)])))) EvQL.nil) rfl) rfl rfl, OpW.plain (OpL.cast (op_not (Ev.t 12 (bB r7)) rfl) (congrArg (fun b => bB b) hc8)) rfl rfl, OpW.plain (op_move (Ev.t 13 (bB false)) rfl) rfl rfl, OpW.yes (op_move (Ev.t 0 (.g (.d (.sl 6 (List.map encApi_Version l_0))))) rfl) rfl rfl rfl, OpW.yes (OpL.cast (op_lenD Try.underlying22 (Ev.t 15 (.g (.d (.sl 6 (List.map encApi_Version l_0))))) rfl) (by rw [List.length_map])) rfl rfl rfl, OpW.yes (OpL.cast (op_gtr (Ev.t 16 (bI .i64 (l_0.length : Int))) (Ev.c _ rfl) rfl) (congrArg (fun b => bB b) hc9)) rfl rfl rfl, OpW.yes (op_move (Ev.t 17 (bB true)) rfl) rfl rfl rfl, OpW.yes (op_move (Ev.t 0 (.g (.d (.sl 6 (List.map encApi_Version l_0))))) rfl) rfl rfl rfl, OpW.yes (op_index (cs := [.v (.string x10.Key), .v (.string x10.Value), .v (.bool x10.Gone), .v (.int .i64 x10.Stamp.N), .v (.int .i64 x10.Stamp.Site), .sl 3 (List.map encApi_Dep x10.Past)]) Try.underlying22 ti28 (idx_ok hx10).1 (idx_get hx10 encApi_Version) (Ev.t 19 (.g (.d (.sl 6 (List.map encApi_Version l_0))))) (Ev.c _ rfl) rfl) rfl rfl rfl, OpW.yes (op_fieldE (cs' := [.v (.string x10.Key), .v (.string x10.Value), .v (.bool x10.Gone), .v (.int .i64 x10.Stamp.N), .v (.int .i64 x10.Stamp.Site), .sl 3 (List.map encApi_Dep x10.Past)]) Try.underlying28 rfl ti9 (by decide) rfl (Ev.t 20 (.ep [.v (.string x10.Key), .v (.string x10.Value), .v (.bool x10.Gone), .v (.int .i64 x10.Stamp.N), .v (.int .i64 x10.Stamp.Site), .sl 3 (List.map encApi_Dep x10.Past)])) rfl) rfl rfl rfl, OpW.yes (op_load1E (c := .v (.string x10.Key)) Try.underlying9 rfl rfl (Ev.t 21 (.ep [.v (.string x10.Key), .v (.string x10.Value), .v (.bool x10.Gone), .v (.int .i64 x10.Stamp.N), .v (.int .i64 x10.Stamp.Site), .sl 3 (List.map encApi_Dep x10.Past)])) rfl) rfl rfl rfl, OpW.yes (op_fieldP (off' := 0) Try.underlying28 rfl ti9 (by decide) rfl (Ev.t 3 (.ptr 1003 0)) rfl) rfl rfl rfl, OpW.yes (op_load1P (c := bS v_1.Key) Try.underlying9 rfl rfl (Ev.t 23 (.ptr 1003 0)) rfl) rfl rfl rfl, OpW.yes (OpL.cast (op_neS (Ev.t 22 (bS x10.Key)) (Ev.t 24 (bS v_1.Key)) rfl) (congrArg (fun b => bB b) hc11)) rfl rfl rfl, OpW.yes (op_pickT (Ev.t 18 (bB true)) (Ev.t 25 (bB false)) rfl) rfl rfl rfl, OpW.plain (op_pickF (Ev.t 14 (bB false)) (Ev.t 26 (bB false)) rfl) rfl rfl, OpW.plain (op_move (Ev.t 27 (bB false)) rfl) rfl rfl, OpW.yes (op_move (Ev.t 6 (bI .i64 r1)) rfl) rfl rfl rfl, OpW.yes (op_move (Ev.t 0 (.g (.d (.sl 6 (List.map encApi_Version l_0))))) rfl) rfl rfl rfl, OpW.yes (OpL.cast (op_lenD Try.underlying22 (Ev.t 30 (.g (.d (.sl 6 (List.map encApi_Version l_0))))) rfl) (by rw [List.length_map])) rfl rfl rfl, OpW.yes (OpL.cast (op_lss (Ev.t 29 (bI .i64 r1)) (Ev.t 31 (bI .i64 (l_0.length : Int))) rfl) (congrArg (fun b => bB b) hc12)) rfl rfl rfl, OpW.yes (op_move (Ev.t 32 (bB true)) rfl) rfl rfl rfl, OpW.yes (op_move (Ev.t 0 (.g (.d (.sl 6 (List.map encApi_Version l_0))))) rfl) rfl rfl rfl, OpW.yes (op_move (Ev.t 6 (bI .i64 r1)) rfl) rfl rfl rfl, OpW.yes (op_index (cs := [.v (.string x13.Key), .v (.string x13.Value), .v (.bool x13.Gone), .v (.int .i64 x13.Stamp.N), .v (.int .i64 x13.Stamp.Site), .sl 3 (List.map encApi_Dep x13.Past)]) Try.underlying22 ti28 (idx_ok hx13).1 (idx_get hx13 encApi_Version) (Ev.t 34 (.g (.d (.sl 6 (List.map encApi_Version l_0))))) (Ev.t 35 (bI .i64 r1)) rfl) rfl rfl rfl, OpW.yes (op_fieldE (cs' := [.v (.int .i64 x13.Stamp.N), .v (.int .i64 x13.Stamp.Site), .sl 3 (List.map encApi_Dep x13.Past)]) Try.underlying28 rfl ti25 (by decide) rfl (Ev.t 36 (.ep [.v (.string x13.Key), .v (.string x13.Value), .v (.bool x13.Gone), .v (.int .i64 x13.Stamp.N), .v (.int .i64 x13.Stamp.Site), .sl 3 (List.map encApi_Dep x13.Past)])) rfl) rfl rfl rfl, OpW.yes (op_loadAE (ds := [.v (.int .i64 x13.Stamp.N), .v (.int .i64 x13.Stamp.Site)]) Try.underlying25 rfl ti25 rfl (Ev.t 37 (.ep [.v (.int .i64 x13.Stamp.N), .v (.int .i64 x13.Stamp.Site), .sl 3 (List.map encApi_Dep x13.Past)])) rfl) rfl rfl rfl, OpW.yes (op_fieldP (off' := 3) Try.underlying28 rfl ti25 (by decide) rfl (Ev.t 3 (.ptr 1003 0)) rfl) rfl rfl rfl, OpW.yes (op_loadAP (ds := [.v (.int .i64 v_1.Stamp.N), .v (.int .i64 v_1.Stamp.Site)]) Try.underlying25 rfl ti25 rfl (Ev.t 39 (.ptr 1003 3)) rfl) rfl rfl rfl, OpW.yes (op_eqA (us := [.int .i64 x13.Stamp.N, .int .i64 x13.Stamp.Site]) (vs := [.int .i64 v_1.Stamp.N, .int .i64 v_1.Stamp.Site]) rfl rfl Try.eqGuardType25 (fun w => eq25 x13.Stamp.N x13.Stamp.Site v_1.Stamp.N v_1.Stamp.Site w) (Ev.t 38 (.g (.agg [.v (.int .i64 x13.Stamp.N), .v (.int .i64 x13.Stamp.Site)]))) (Ev.t 40 (.g (.agg [.v (.int .i64 v_1.Stamp.N), .v (.int .i64 v_1.Stamp.Site)]))) rfl) rfl rfl rfl, OpW.yes (op_pickT (Ev.t 33 (bB true)) (Ev.t 41 (bB (decide (x13.Stamp.N = v_1.Stamp.N) && decide (x13.Stamp.Site = v_1.Stamp.Site)))) rfl) rfl rfl rfl, OpW.plain (op_pickF (Ev.t 28 (bB false)) (Ev.t 42 (bB (decide (x13.Stamp.N = v_1.Stamp.N) && decide (x13.Stamp.Site = v_1.Stamp.Site)))) rfl) rfl rfl, trivial⟩ ⟨rfl, rfl, rfl, rfl, trivial⟩ ⟨rfl, trivial⟩ rfl ?_
          exact G.arr (J6 (decide (x13.Stamp.N = v_1.Stamp.N) && decide (x13.Stamp.Site = v_1.Stamp.Site)) hF) ⟨rfl, rfl, rfl, rfl, trivial⟩ ⟨rfl, trivial⟩ rfl
        · refine G.drawn (effs := (⟨[(3, .one (.ptr 1003 0))], [(1003, some (.blk 28 [bS v_1.Key, bS v_1.Value, bB v_1.Gone, bI .i64 v_1.Stamp.N, bI .i64 v_1.Stamp.Site, .g (.d (.sl 3 (List.map encApi_Dep v_1.Past)))]))], [(11, .one (.g (.agg [.v (.string v_1.Key), .v (.string v_1.Value), .v (.bool v_1.Gone), .v (.int .i64 v_1.Stamp.N), .v (.int .i64 v_1.Stamp.Site), .sl 3 (List.map encApi_Dep v_1.Past)])))], []⟩ :: ⟨[(11, .one (.g (.agg [.v (.string v_1.Key), .v (.string v_1.Value), .v (.bool v_1.Gone), .v (.int .i64 v_1.Stamp.N), .v (.int .i64 v_1.Stamp.Site), .sl 3 (List.map encApi_Dep v_1.Past)])))], [], [(12, .one (bB r7))], []⟩ :: ⟨[(12, .one (bB r7))], [], [(13, .one (bB false))], []⟩ :: ⟨[(13, .one (bB false))], [], [(14, .one (bB false))], []⟩ :: ⟨[(14, .one (bB false)), (0, .one (.g (.d (.sl 6 (List.map encApi_Version l_0)))))], [], [(15, .one (.g (.d (.sl 6 (List.map encApi_Version l_0)))))], []⟩ :: ⟨[(14, .one (bB false)), (15, .one (.g (.d (.sl 6 (List.map encApi_Version l_0)))))], [], [(16, .one (bI .i64 (l_0.length : Int)))], []⟩ :: ⟨[(14, .one (bB false)), (16, .one (bI .i64 (l_0.length : Int)))], [], [(17, .one (bB true))], []⟩ :: ⟨[(14, .one (bB false)), (17, .one (bB true))], [], [(18, .one (bB true))], []⟩ :: ⟨[(18, .one (bB true)), (0, .one (.g (.d (.sl 6 (List.map encApi_Version l_0)))))], [], [(19, .one (.g (.d (.sl 6 (List.map encApi_Version l_0)))))], []⟩ :: ⟨[(18, .one (bB true)), (19, .one (.g (.d (.sl 6 (List.map encApi_Version l_0)))))], [], [(20, .one (.ep [.v (.string x10.Key), .v (.string x10.Value), .v (.bool x10.Gone), .v (.int .i64 x10.Stamp.N), .v (.int .i64 x10.Stamp.Site), .sl 3 (List.map encApi_Dep x10.Past)]))], []⟩ :: ⟨[(18, .one (bB true)), (20, .one (.ep [.v (.string x10.Key), .v (.string x10.Value), .v (.bool x10.Gone), .v (.int .i64 x10.Stamp.N), .v (.int .i64 x10.Stamp.Site), .sl 3 (List.map encApi_Dep x10.Past)]))], [], [(21, .one (.ep [.v (.string x10.Key), .v (.string x10.Value), .v (.bool x10.Gone), .v (.int .i64 x10.Stamp.N), .v (.int .i64 x10.Stamp.Site), .sl 3 (List.map encApi_Dep x10.Past)]))], []⟩ :: ⟨[(18, .one (bB true)), (21, .one (.ep [.v (.string x10.Key), .v (.string x10.Value), .v (.bool x10.Gone), .v (.int .i64 x10.Stamp.N), .v (.int .i64 x10.Stamp.Site), .sl 3 (List.map encApi_Dep x10.Past)]))], [], [(22, .one (bS x10.Key))], []⟩ :: ⟨[(18, .one (bB true)), (3, .one (.ptr 1003 0))], [], [(23, .one (.ptr 1003 0))], []⟩ :: ⟨[(18, .one (bB true)), (23, .one (.ptr 1003 0))], [(1003, some (.blk 28 [bS v_1.Key, bS v_1.Value, bB v_1.Gone, bI .i64 v_1.Stamp.N, bI .i64 v_1.Stamp.Site, .g (.d (.sl 3 (List.map encApi_Dep v_1.Past)))]))], [(24, .one (bS v_1.Key))], []⟩ :: ⟨[(18, .one (bB true)), (22, .one (bS x10.Key)), (24, .one (bS v_1.Key))], [], [(25, .one (bB false))], []⟩ :: ⟨[(14, .one (bB false)), (18, .one (bB true)), (25, .one (bB false))], [], [(26, .one (bB false))], []⟩ :: ⟨[(14, .one (bB false)), (26, .one (bB false))], [], [(27, .one (bB false))], []⟩ :: ⟨[(27, .one (bB false))], [], [(28, .one (bB false))], []⟩ :: ⟨[(28, .one (bB false)), (6, .one (bI .i64 r1))], [], [(29, .one (bI .i64 r1))], []⟩ :: ⟨[(28, .one (bB false)), (0, .one (.g (.d (.sl 6 (List.map encApi_Version l_0)))))], [], [(30, .one (.g (.d (.sl 6 (List.map encApi_Version l_0)))))], []⟩ :: ⟨[(28, .one (bB false)), (30, .one (.g (.d (.sl 6 (List.map encApi_Version l_0)))))], [], [(31, .one (bI .i64 (l_0.length : Int)))], []⟩ :: ⟨[(28, .one (bB false)), (29, .one (bI .i64 r1)), (31, .one (bI .i64 (l_0.length : Int)))], [], [(32, .one (bB false))], []⟩ :: ⟨[(28, .one (bB false)), (32, .one (bB false))], [], [(33, .one (bB false))], []⟩ :: ⟨[(33, .one (bB false))], [], [(34, .one (.x Go.undef))], []⟩ :: ⟨[(33, .one (bB false))], [], [(35, .one (.x Go.undef))], []⟩ :: ⟨[(33, .one (bB false))], [], [(36, .one (.x Go.undef))], []⟩ :: ⟨[(33, .one (bB false))], [], [(37, .one (.x Go.undef))], []⟩ :: ⟨[(33, .one (bB false))], [], [(38, .one (.x Go.undef))], []⟩ :: ⟨[(33, .one (bB false))], [], [(39, .one (.x Go.undef))], []⟩ :: ⟨[(33, .one (bB false))], [], [(40, .one (.x Go.undef))], []⟩ :: ⟨[(33, .one (bB false))], [], [(41, .one (.x Go.undef))], []⟩ :: ⟨[(28, .one (bB false)), (33, .one (bB false))], [], [(42, .one (bB false))], []⟩ :: ⟨[(28, .one (bB false)), (42, .one (bB false))], [], [(43, .one (bB false))], []⟩ :: [])) (deps := ([] :: [0] :: [0, 1] :: [0, 1, 2] :: [0, 1, 2, 3] :: [0, 1, 2, 3, 4] :: [0, 1, 2, 3, 4, 5] :: [0, 1, 2, 3, 4, 5, 6] :: [0, 1, 2, 3, 4, 5, 6, 7] :: [0, 1, 2, 3, 4, 5, 6, 7, 8] :: [0, 1, 2, 3, 4, 5, 6, 7, 8, 9] :: [0, 1, 2, 3, 4, 5, 6, 7, 8, 9, 10] :: [0, 1, 2, 3, 4, 5, 6, 7] :: [0, 1, 2, 3, 4, 5, 6, 7, 12] :: [0, 1, 2, 3, 4, 5, 6, 7, 8, 9, 10, 11, 12, 13] :: [0, 1, 2, 3, 4, 5, 6, 7, 8, 9, 10, 11, 12, 13, 14] :: [0, 1, 2, 3, 4, 5, 6, 7, 8, 9, 10, 11, 12, 13, 14, 15] :: [0, 1, 2, 3, 4, 5, 6, 7, 8, 9, 10, 11, 12, 13, 14, 15, 16] :: [0, 1, 2, 3, 4, 5, 6, 7, 8, 9, 10, 11, 12, 13, 14, 15, 16, 17] :: [0, 1, 2, 3, 4, 5, 6, 7, 8, 9, 10, 11, 12, 13, 14, 15, 16, 17] :: [0, 1, 2, 3, 4, 5, 6, 7, 8, 9, 10, 11, 12, 13, 14, 15, 16, 17, 19] :: (0 :: 1 :: 2 :: 3 :: 4 :: 5 :: 6 :: 7 :: 8 :: 9 :: 10 :: 11 :: 12 :: 13 :: 14 :: 15 :: 16 :: 17 :: 18 :: 19 :: 20 :: []) :: (0 :: 1 :: 2 :: 3 :: 4 :: 5 :: 6 :: 7 :: 8 :: 9 :: 10 :: 11 :: 12 :: 13 :: 14 :: 15 :: 16 :: 17 :: 18 :: 19 :: 20 :: 21 :: []) :: (0 :: 1 :: 2 :: 3 :: 4 :: 5 :: 6 :: 7 :: 8 :: 9 :: 10 :: 11 :: 12 :: 13 :: 14 :: 15 :: 16 :: 17 :: 18 :: 19 :: 20 :: 21 :: 22 :: []) :: (0 :: 1 :: 2 :: 3 :: 4 :: 5 :: 6 :: 7 :: 8 :: 9 :: 10 :: 11 :: 12 :: 13 :: 14 :: 15 :: 16 :: 17 :: 18 :: 19 :: 20 :: 21 :: 22 :: []) :: (0 :: 1 :: 2 :: 3 :: 4 :: 5 :: 6 :: 7 :: 8 :: 9 :: 10 :: 11 :: 12 :: 13 :: 14 :: 15 :: 16 :: 17 :: 18 :: 19 :: 20 :: 21 :: 22 :: 23 :: 24 :: []) :: (0 :: 1 :: 2 :: 3 :: 4 :: 5 :: 6 :: 7 :: 8 :: 9 :: 10 :: 11 :: 12 :: 13 :: 14 :: 15 :: 16 :: 17 :: 18 :: 19 :: 20 :: 21 :: 22 :: 23 :: 24 :: 25 :: []) :: (0 :: 1 :: 2 :: 3 :: 4 :: 5 :: 6 :: 7 :: 8 :: 9 :: 10 :: 11 :: 12 :: 13 :: 14 :: 15 :: 16 :: 17 :: 18 :: 19 :: 20 :: 21 :: 22 :: 23 :: 24 :: 25 :: 26 :: []) :: (0 :: 1 :: 2 :: 3 :: 4 :: 5 :: 6 :: 7 :: 8 :: 9 :: 10 :: 11 :: 12 :: 13 :: 14 :: 15 :: 16 :: 17 :: 18 :: 19 :: 20 :: 21 :: 22 :: []) :: (0 :: 1 :: 2 :: 3 :: 4 :: 5 :: 6 :: 7 :: 8 :: 9 :: 10 :: 11 :: 12 :: 13 :: 14 :: 15 :: 16 :: 17 :: 18 :: 19 :: 20 :: 21 :: 22 :: 28 :: []) :: (0 :: 1 :: 2 :: 3 :: 4 :: 5 :: 6 :: 7 :: 8 :: 9 :: 10 :: 11 :: 12 :: 13 :: 14 :: 15 :: 16 :: 17 :: 18 :: 19 :: 20 :: 21 :: 22 :: 23 :: 24 :: 25 :: 26 :: 27 :: 28 :: 29 :: []) :: (0 :: 1 :: 2 :: 3 :: 4 :: 5 :: 6 :: 7 :: 8 :: 9 :: 10 :: 11 :: 12 :: 13 :: 14 :: 15 :: 16 :: 17 :: 18 :: 19 :: 20 :: 21 :: 22 :: 23 :: 24 :: 25 :: 26 :: 27 :: 28 :: 29 :: 30 :: []) :: (0 :: 1 :: 2 :: 3 :: 4 :: 5 :: 6 :: 7 :: 8 :: 9 :: 10 :: 11 :: 12 :: 13 :: 14 :: 15 :: 16 :: 17 :: 18 :: 19 :: 20 :: 21 :: 22 :: 23 :: 24 :: 25 :: 26 :: 27 :: 28 :: 29 :: 30 :: 31 :: []) :: [])) (sl' := [(0, .one (.g (.d (.sl 6 (List.map encApi_Version l_0))))), (3, .one (.ptr 1003 0)), (6, .one (bI .i64 r1)), (43, .one (bB false))]) (hp' := [(1003, some (.blk 28 [bS v_1.Key, bS v_1.Value, bB v_1.Gone, bI .i64 v_1.Stamp.N, bI .i64 v_1.Stamp.Site, .g (.d (.sl 3 (List.map encApi_Dep v_1.Past)))]))]) follows rfl rfl rfl ⟨⟨rfl, trivial⟩, ⟨⟨rfl, rfl⟩, trivial⟩, ⟨rfl, trivial⟩, trivial, ⟨rfl, trivial⟩, trivial, ⟨rfl, trivial⟩, trivial, ⟨rfl, rfl, trivial⟩, trivial, ⟨rfl, rfl, trivial⟩, trivial, ⟨rfl, rfl, trivial⟩, trivial, ⟨rfl, rfl, trivial⟩, trivial, ⟨rfl, rfl, trivial⟩, trivial, ⟨rfl, rfl, trivial⟩, trivial, ⟨rfl, rfl, trivial⟩, trivial, ⟨rfl, rfl, trivial⟩, trivial, ⟨rfl, rfl, trivial⟩, trivial, ⟨rfl, rfl, trivial⟩, ⟨⟨rfl, rfl⟩, trivial⟩, ⟨rfl, rfl, rfl, trivial⟩, trivial, ⟨rfl, rfl, rfl, trivial⟩, trivial, ⟨rfl, rfl, trivial⟩, trivial, ⟨rfl, trivial⟩, trivial, ⟨rfl, rfl, trivial⟩, trivial, ⟨rfl, rfl, trivial⟩, trivial, ⟨rfl, rfl, trivial⟩, trivial, ⟨rfl, rfl, rfl, trivial⟩, trivial, ⟨rfl, rfl, trivial⟩, trivial, ⟨rfl, trivial⟩, trivial, ⟨rfl, trivial⟩, trivial, ⟨rfl, trivial⟩, trivial, ⟨rfl, trivial⟩, trivial, ⟨rfl, trivial⟩, trivial, ⟨rfl, trivial⟩, trivial, ⟨rfl, trivial⟩, trivial, ⟨rfl, trivial⟩, trivial, ⟨rfl, rfl, trivial⟩, trivial, ⟨rfl, rfl, trivial⟩, trivial, trivial⟩ ⟨OpW.plain (op_loadAP (ds := [.v (.string v_1.Key), .v (.string v_1.Value), .v (.bool v_1.Gone), .v (.int .i64 v_1.Stamp.N), .v (.int .i64 v_1.Stamp.Site), .sl 3 (List.map encApi_Dep v_1.Past)]) Try.underlying28 rfl ti28 rfl (Ev.t 3 (.ptr 1003 0)) rfl) rfl rfl, OpW.plain (op_callQ (sv := .one (bB r7)) cf22 (ct_wire_Check v_1 r7 hr7) rfl rfl (EvQL.cons (EvQ.g (Ev.t 11 (.g (.agg [.v (.string v_1.Key), .v (.string v_1.Value), .v (.bool v_1.Gone), .v (.int .i64 v_1.Stamp.N), .v (.int .i64 v_1.Stamp.Site), .sl 3 (List.map encApi_Dep v_1.Past)])))) EvQL.nil) rfl) rfl rfl, OpW.plain (OpL.cast (op_not (Ev.t 12 (bB r7)) rfl) (congrArg (fun b => bB b) hc8)) rfl rfl, OpW.plain (op_move (Ev.t 13 (bB false)) rfl) rfl rfl, OpW.yes (op_move (Ev.t 0 (.g (.d (.sl 6 (List.map encApi_Version l_0))))) rfl) rfl rfl rfl, OpW.yes (OpL.cast (op_lenD Try.underlying22 (Ev.t 15 (.g (.d (.sl 6 (List.map encApi_Version l_0))))) rfl) (by rw [List.length_map])) rfl rfl rfl, OpW.yes (OpL.cast (op_gtr (Ev.t 16 (bI .i64 (l_0.length : Int))) (Ev.c _ rfl) rfl) (congrArg (fun b => bB b) hc9)) rfl rfl rfl, OpW.yes (op_move (Ev.t 17 (bB true)) rfl) rfl rfl rfl, OpW.yes (op_move (Ev.t 0 (.g (.d (.sl 6 (List.map encApi_Version l_0))))) rfl) rfl rfl rfl, OpW.yes (op_index (cs := [.v (.string x10.Key), .v (.string x10.Value), .v (.bool x10.Gone), .v (.int .i64 x10.Stamp.N), .v (.int .i64 x10.Stamp.Site), .sl 3 (List.map encApi_Dep x10.Past)]) Try.underlying22 ti28 (idx_ok hx10).1 (idx_get hx10 encApi_Version) (Ev.t 19 (.g (.d (.sl 6 (List.map encApi_Version l_0))))) (Ev.c _ rfl) rfl) rfl rfl rfl, OpW.yes (op_fieldE (cs' := [.v (.string x10.Key), .v (.string x10.Value), .v (.bool x10.Gone), .v (.int .i64 x10.Stamp.N), .v (.int .i64 x10.Stamp.Site), .sl 3 (List.map encApi_Dep x10.Past)]) Try.underlying28 rfl ti9 (by decide) rfl (Ev.t 20 (.ep [.v (.string x10.Key), .v (.string x10.Value), .v (.bool x10.Gone), .v (.int .i64 x10.Stamp.N), .v (.int .i64 x10.Stamp.Site), .sl 3 (List.map encApi_Dep x10.Past)])) rfl) rfl rfl rfl, OpW.yes (op_load1E (c := .v (.string x10.Key)) Try.underlying9 rfl rfl (Ev.t 21 (.ep [.v (.string x10.Key), .v (.string x10.Value), .v (.bool x10.Gone), .v (.int .i64 x10.Stamp.N), .v (.int .i64 x10.Stamp.Site), .sl 3 (List.map encApi_Dep x10.Past)])) rfl) rfl rfl rfl, OpW.yes (op_fieldP (off' := 0) Try.underlying28 rfl ti9 (by decide) rfl (Ev.t 3 (.ptr 1003 0)) rfl) rfl rfl rfl, OpW.yes (op_load1P (c := bS v_1.Key) Try.underlying9 rfl rfl (Ev.t 23 (.ptr 1003 0)) rfl) rfl rfl rfl, OpW.yes (OpL.cast (op_neS (Ev.t 22 (bS x10.Key)) (Ev.t 24 (bS v_1.Key)) rfl) (congrArg (fun b => bB b) hc11)) rfl rfl rfl, OpW.yes (op_pickT (Ev.t 18 (bB true)) (Ev.t 25 (bB false)) rfl) rfl rfl rfl, OpW.plain (op_pickF (Ev.t 14 (bB false)) (Ev.t 26 (bB false)) rfl) rfl rfl, OpW.plain (op_move (Ev.t 27 (bB false)) rfl) rfl rfl, OpW.yes (op_move (Ev.t 6 (bI .i64 r1)) rfl) rfl rfl rfl, OpW.yes (op_move (Ev.t 0 (.g (.d (.sl 6 (List.map encApi_Version l_0))))) rfl) rfl rfl rfl, OpW.yes (OpL.cast (op_lenD Try.underlying22 (Ev.t 30 (.g (.d (.sl 6 (List.map encApi_Version l_0))))) rfl) (by rw [List.length_map])) rfl rfl rfl, OpW.yes (OpL.cast (op_lss (Ev.t 29 (bI .i64 r1)) (Ev.t 31 (bI .i64 (l_0.length : Int))) rfl) (congrArg (fun b => bB b) hc12)) rfl rfl rfl, OpW.yes (op_move (Ev.t 32 (bB false)) rfl) rfl rfl rfl, OpW.no rfl rfl rfl rfl rfl, OpW.no rfl rfl rfl rfl rfl, OpW.no rfl rfl rfl rfl rfl, OpW.no rfl rfl rfl rfl rfl, OpW.no rfl rfl rfl rfl rfl, OpW.no rfl rfl rfl rfl rfl, OpW.no rfl rfl rfl rfl rfl, OpW.no rfl rfl rfl rfl rfl, OpW.yes (op_pickF (Ev.t 33 (bB false)) (Ev.c _ rfl) rfl) rfl rfl rfl, OpW.plain (op_pickF (Ev.t 28 (bB false)) (Ev.t 42 (bB false)) rfl) rfl rfl, trivial⟩ ⟨rfl, rfl, rfl, rfl, trivial⟩ ⟨rfl, trivial⟩ rfl ?_
          exact G.arr (J6 false hF) ⟨rfl, rfl, rfl, rfl, trivial⟩ ⟨rfl, trivial⟩ rfl
    · refine ifS hF (fun hc14 hF => ?_) (fun hc14 hF => ?_)
      · obtain ⟨x15, hx15, hF⟩ := bindS hF
        refine G.drawn (effs := (⟨[(3, .one (.ptr 1003 0))], [(1003, some (.blk 28 [bS v_1.Key, bS v_1.Value, bB v_1.Gone, bI .i64 v_1.Stamp.N, bI .i64 v_1.Stamp.Site, .g (.d (.sl 3 (List.map encApi_Dep v_1.Past)))]))], [(11, .one (.g (.agg [.v (.string v_1.Key), .v (.string v_1.Value), .v (.bool v_1.Gone), .v (.int .i64 v_1.Stamp.N), .v (.int .i64 v_1.Stamp.Site), .sl 3 (List.map encApi_Dep v_1.Past)])))], []⟩ :: ⟨[(11, .one (.g (.agg [.v (.string v_1.Key), .v (.string v_1.Value), .v (.bool v_1.Gone), .v (.int .i64 v_1.Stamp.N), .v (.int .i64 v_1.Stamp.Site), .sl 3 (List.map encApi_Dep v_1.Past)])))], [], [(12, .one (bB r7))], []⟩ :: ⟨[(12, .one (bB r7))], [], [(13, .one (bB false))], []⟩ :: ⟨[(13, .one (bB false))], [], [(14, .one (bB false))], []⟩ :: ⟨[(14, .one (bB false)), (0, .one (.g (.d (.sl 6 (List.map encApi_Version l_0)))))], [], [(15, .one (.g (.d (.sl 6 (List.map encApi_Version l_0)))))], []⟩ :: ⟨[(14, .one (bB false)), (15, .one (.g (.d (.sl 6 (List.map encApi_Version l_0)))))], [], [(16, .one (bI .i64 (l_0.length : Int)))], []⟩ :: ⟨[(14, .one (bB false)), (16, .one (bI .i64 (l_0.length : Int)))], [], [(17, .one (bB false))], []⟩ :: ⟨[(14, .one (bB false)), (17, .one (bB false))], [], [(18, .one (bB false))], []⟩ :: ⟨[(18, .one (bB false))], [], [(19, .one (.x Go.undef))], []⟩ :: ⟨[(18, .one (bB false))], [], [(20, .one (.x Go.undef))], []⟩ :: ⟨[(18, .one (bB false))], [], [(21, .one (.x Go.undef))], []⟩ :: ⟨[(18, .one (bB false))], [], [(22, .one (.x Go.undef))], []⟩ :: ⟨[(18, .one (bB false))], [], [(23, .one (.x Go.undef))], []⟩ :: ⟨[(18, .one (bB false))], [], [(24, .one (.x Go.undef))], []⟩ :: ⟨[(18, .one (bB false))], [], [(25, .one (.x Go.undef))], []⟩ :: ⟨[(14, .one (bB false)), (18, .one (bB false))], [], [(26, .one (bB false))], []⟩ :: ⟨[(14, .one (bB false)), (26, .one (bB false))], [], [(27, .one (bB false))], []⟩ :: ⟨[(27, .one (bB false))], [], [(28, .one (bB false))], []⟩ :: ⟨[(28, .one (bB false)), (6, .one (bI .i64 r1))], [], [(29, .one (bI .i64 r1))], []⟩ :: ⟨[(28, .one (bB false)), (0, .one (.g (.d (.sl 6 (List.map encApi_Version l_0)))))], [], [(30, .one (.g (.d (.sl 6 (List.map encApi_Version l_0)))))], []⟩ :: ⟨[(28, .one (bB false)), (30, .one (.g (.d (.sl 6 (List.map encApi_Version l_0)))))], [], [(31, .one (bI .i64 (l_0.length : Int)))], []⟩ :: ⟨[(28, .one (bB false)), (29, .one (bI .i64 r1)), (31, .one (bI .i64 (l_0.length : Int)))], [], [(32, .one (bB true))], []⟩ :: ⟨[(28, .one (bB false)), (32, .one (bB true))], [], [(33, .one (bB true))], []⟩ :: ⟨[(33, .one (bB true)), (0, .one (.g (.d (.sl 6 (List.map encApi_Version l_0)))))], [], [(34, .one (.g (.d (.sl 6 (List.map encApi_Version l_0)))))], []⟩ :: ⟨[(33, .one (bB true)), (6, .one (bI .i64 r1))], [], [(35, .one (bI .i64 r1))], []⟩ :: ⟨[(33, .one (bB true)), (34, .one (.g (.d (.sl 6 (List.map encApi_Version l_0))))), (35, .one (bI .i64 r1))], [], [(36, .one (.ep [.v (.string x15.Key), .v (.string x15.Value), .v (.bool x15.Gone), .v (.int .i64 x15.Stamp.N), .v (.int .i64 x15.Stamp.Site), .sl 3 (List.map encApi_Dep x15.Past)]))], []⟩ :: ⟨[(33, .one (bB true)), (36, .one (.ep [.v (.string x15.Key), .v (.string x15.Value), .v (.bool x15.Gone), .v (.int .i64 x15.Stamp.N), .v (.int .i64 x15.Stamp.Site), .sl 3 (List.map encApi_Dep x15.Past)]))], [], [(37, .one (.ep [.v (.int .i64 x15.Stamp.N), .v (.int .i64 x15.Stamp.Site), .sl 3 (List.map encApi_Dep x15.Past)]))], []⟩ :: ⟨[(33, .one (bB true)), (37, .one (.ep [.v (.int .i64 x15.Stamp.N), .v (.int .i64 x15.Stamp.Site), .sl 3 (List.map encApi_Dep x15.Past)]))], [], [(38, .one (.g (.agg [.v (.int .i64 x15.Stamp.N), .v (.int .i64 x15.Stamp.Site)])))], []⟩ :: ⟨[(33, .one (bB true)), (3, .one (.ptr 1003 0))], [], [(39, .one (.ptr 1003 3))], []⟩ :: ⟨[(33, .one (bB true)), (39, .one (.ptr 1003 3))], [(1003, some (.blk 28 [bS v_1.Key, bS v_1.Value, bB v_1.Gone, bI .i64 v_1.Stamp.N, bI .i64 v_1.Stamp.Site, .g (.d (.sl 3 (List.map encApi_Dep v_1.Past)))]))], [(40, .one (.g (.agg [.v (.int .i64 v_1.Stamp.N), .v (.int .i64 v_1.Stamp.Site)])))], []⟩ :: ⟨[(33, .one (bB true)), (38, .one (.g (.agg [.v (.int .i64 x15.Stamp.N), .v (.int .i64 x15.Stamp.Site)]))), (40, .one (.g (.agg [.v (.int .i64 v_1.Stamp.N), .v (.int .i64 v_1.Stamp.Site)])))], [], [(41, .one (bB (decide (x15.Stamp.N = v_1.Stamp.N) && decide (x15.Stamp.Site = v_1.Stamp.Site))))], []⟩ :: ⟨[(28, .one (bB false)), (33, .one (bB true)), (41, .one (bB (decide (x15.Stamp.N = v_1.Stamp.N) && decide (x15.Stamp.Site = v_1.Stamp.Site))))], [], [(42, .one (bB (decide (x15.Stamp.N = v_1.Stamp.N) && decide (x15.Stamp.Site = v_1.Stamp.Site))))], []⟩ :: ⟨[(28, .one (bB false)), (42, .one (bB (decide (x15.Stamp.N = v_1.Stamp.N) && decide (x15.Stamp.Site = v_1.Stamp.Site))))], [], [(43, .one (bB (decide (x15.Stamp.N = v_1.Stamp.N) && decide (x15.Stamp.Site = v_1.Stamp.Site))))], []⟩ :: [])) (deps := ([] :: [0] :: [0, 1] :: [0, 1, 2] :: [0, 1, 2, 3] :: [0, 1, 2, 3, 4] :: [0, 1, 2, 3, 4, 5] :: [0, 1, 2, 3, 4, 5, 6] :: [0, 1, 2, 3, 4, 5, 6, 7] :: [0, 1, 2, 3, 4, 5, 6, 7, 8] :: [0, 1, 2, 3, 4, 5, 6, 7, 8, 9] :: [0, 1, 2, 3, 4, 5, 6, 7, 8, 9, 10] :: [0, 1, 2, 3, 4, 5, 6, 7] :: [0, 1, 2, 3, 4, 5, 6, 7, 12] :: [0, 1, 2, 3, 4, 5, 6, 7, 8, 9, 10, 11, 12, 13] :: [0, 1, 2, 3, 4, 5, 6, 7, 8, 9, 10, 11, 12, 13, 14] :: [0, 1, 2, 3, 4, 5, 6, 7, 8, 9, 10, 11, 12, 13, 14, 15] :: [0, 1, 2, 3, 4, 5, 6, 7, 8, 9, 10, 11, 12, 13, 14, 15, 16] :: [0, 1, 2, 3, 4, 5, 6, 7, 8, 9, 10, 11, 12, 13, 14, 15, 16, 17] :: [0, 1, 2, 3, 4, 5, 6, 7, 8, 9, 10, 11, 12, 13, 14, 15, 16, 17] :: [0, 1, 2, 3, 4, 5, 6, 7, 8, 9, 10, 11, 12, 13, 14, 15, 16, 17, 19] :: (0 :: 1 :: 2 :: 3 :: 4 :: 5 :: 6 :: 7 :: 8 :: 9 :: 10 :: 11 :: 12 :: 13 :: 14 :: 15 :: 16 :: 17 :: 18 :: 19 :: 20 :: []) :: (0 :: 1 :: 2 :: 3 :: 4 :: 5 :: 6 :: 7 :: 8 :: 9 :: 10 :: 11 :: 12 :: 13 :: 14 :: 15 :: 16 :: 17 :: 18 :: 19 :: 20 :: 21 :: []) :: (0 :: 1 :: 2 :: 3 :: 4 :: 5 :: 6 :: 7 :: 8 :: 9 :: 10 :: 11 :: 12 :: 13 :: 14 :: 15 :: 16 :: 17 :: 18 :: 19 :: 20 :: 21 :: 22 :: []) :: (0 :: 1 :: 2 :: 3 :: 4 :: 5 :: 6 :: 7 :: 8 :: 9 :: 10 :: 11 :: 12 :: 13 :: 14 :: 15 :: 16 :: 17 :: 18 :: 19 :: 20 :: 21 :: 22 :: []) :: (0 :: 1 :: 2 :: 3 :: 4 :: 5 :: 6 :: 7 :: 8 :: 9 :: 10 :: 11 :: 12 :: 13 :: 14 :: 15 :: 16 :: 17 :: 18 :: 19 :: 20 :: 21 :: 22 :: 23 :: 24 :: []) :: (0 :: 1 :: 2 :: 3 :: 4 :: 5 :: 6 :: 7 :: 8 :: 9 :: 10 :: 11 :: 12 :: 13 :: 14 :: 15 :: 16 :: 17 :: 18 :: 19 :: 20 :: 21 :: 22 :: 23 :: 24 :: 25 :: []) :: (0 :: 1 :: 2 :: 3 :: 4 :: 5 :: 6 :: 7 :: 8 :: 9 :: 10 :: 11 :: 12 :: 13 :: 14 :: 15 :: 16 :: 17 :: 18 :: 19 :: 20 :: 21 :: 22 :: 23 :: 24 :: 25 :: 26 :: []) :: (0 :: 1 :: 2 :: 3 :: 4 :: 5 :: 6 :: 7 :: 8 :: 9 :: 10 :: 11 :: 12 :: 13 :: 14 :: 15 :: 16 :: 17 :: 18 :: 19 :: 20 :: 21 :: 22 :: []) :: (0 :: 1 :: 2 :: 3 :: 4 :: 5 :: 6 :: 7 :: 8 :: 9 :: 10 :: 11 :: 12 :: 13 :: 14 :: 15 :: 16 :: 17 :: 18 :: 19 :: 20 :: 21 :: 22 :: 28 :: []) :: (0 :: 1 :: 2 :: 3 :: 4 :: 5 :: 6 :: 7 :: 8 :: 9 :: 10 :: 11 :: 12 :: 13 :: 14 :: 15 :: 16 :: 17 :: 18 :: 19 :: 20 :: 21 :: 22 :: 23 :: 24 :: 25 :: 26 :: 27 :: 28 :: 29 :: []) :: (0 :: 1 :: 2 :: 3 :: 4 :: 5 :: 6 :: 7 :: 8 :: 9 :: 10 :: 11 :: 12 :: 13 :: 14 :: 15 :: 16 :: 17 :: 18 :: 19 :: 20 :: 21 :: 22 :: 23 :: 24 :: 25 :: 26 :: 27 :: 28 :: 29 :: 30 :: []) :: (0 :: 1 :: 2 :: 3 :: 4 :: 5 :: 6 :: 7 :: 8 :: 9 :: 10 :: 11 :: 12 :: 13 :: 14 :: 15 :: 16 :: 17 :: 18 :: 19 :: 20 :: 21 :: 22 :: 23 :: 24 :: 25 :: 26 :: 27 :: 28 :: 29 :: 30 :: 31 :: []) :: [])) (sl' := [(0, .one (.g (.d (.sl 6 (List.map encApi_Version l_0))))), (3, .one (.ptr 1003 0)), (6, .one (bI .i64 r1)), (43, .one (bB (decide (x15.Stamp.N = v_1.Stamp.N) && decide (x15.Stamp.Site = v_1.Stamp.Site))))]) (hp' := [(1003, some (.blk 28 [bS v_1.Key, bS v_1.Value, bB v_1.Gone, bI .i64 v_1.Stamp.N, bI .i64 v_1.Stamp.Site, .g (.d (.sl 3 (List.map encApi_Dep v_1.Past)))]))]) follows rfl rfl rfl ⟨⟨rfl, trivial⟩, ⟨⟨rfl, rfl⟩, trivial⟩, ⟨rfl, trivial⟩, trivial, ⟨rfl, trivial⟩, trivial, ⟨rfl, trivial⟩, trivial, ⟨rfl, rfl, trivial⟩, trivial, ⟨rfl, rfl, trivial⟩, trivial, ⟨rfl, rfl, trivial⟩, trivial, ⟨rfl, rfl, trivial⟩, trivial, ⟨rfl, trivial⟩, trivial, ⟨rfl, trivial⟩, trivial, ⟨rfl, trivial⟩, trivial, ⟨rfl, trivial⟩, trivial, ⟨rfl, trivial⟩, trivial, ⟨rfl, trivial⟩, trivial, ⟨rfl, trivial⟩, trivial, ⟨rfl, rfl, trivial⟩, trivial, ⟨rfl, rfl, trivial⟩, trivial, ⟨rfl, trivial⟩, trivial, ⟨rfl, rfl, trivial⟩, trivial, ⟨rfl, rfl, trivial⟩, trivial, ⟨rfl, rfl, trivial⟩, trivial, ⟨rfl, rfl, rfl, trivial⟩, trivial, ⟨rfl, rfl, trivial⟩, trivial, ⟨rfl, rfl, trivial⟩, trivial, ⟨rfl, rfl, trivial⟩, trivial, ⟨rfl, rfl, rfl, trivial⟩, trivial, ⟨rfl, rfl, trivial⟩, trivial, ⟨rfl, rfl, trivial⟩, trivial, ⟨rfl, rfl, trivial⟩, trivial, ⟨rfl, rfl, trivial⟩, ⟨⟨rfl, rfl⟩, trivial⟩, ⟨rfl, rfl, rfl, trivial⟩, trivial, ⟨rfl, rfl, rfl, trivial⟩, trivial, ⟨rfl, rfl, trivial⟩, trivial, trivial⟩ ⟨OpW.plain (op_loadAP (ds := [.v (.string v_1.Key), .v (.string v_1.Value), .v (.bool v_1.Gone), .v (.int .i64 v_1.Stamp.N), .v (.int .i64 v_1.Stamp.Site), .sl 3 (List.map encApi_Dep v_1.Past)]) Try.underlying28 rfl ti28 rfl (Ev.t 3 (.ptr 1003 0)) rfl) rfl rfl, OpW.plain (op_callQ (sv := .one (bB r7)) cf22 (ct_wire_Check v_1 r7 hr7) rfl rfl (EvQL.cons (EvQ.g (Ev.t 11 (.g (.agg [.v (.string v_1.Key), .v (.string v_1.Value), .v (.bool v_1.Gone), .v (.int .i64 v_1.Stamp.N), .v (.int .i64 v_1.Stamp.Site), .sl 3 (List.map encApi_Dep v_1.Past)])))) EvQL.nil) rfl) rfl rfl, OpW.plain (OpL.cast (op_not (Ev.t 12 (bB r7)) rfl) (congrArg (fun b => bB b) hc8)) rfl rfl, OpW.plain (op_move (Ev.t 13 (bB false)) rfl) rfl rfl, OpW.yes (op_move (Ev.t 0 (.g (.d (.sl 6 (List.map encApi_Version l_0))))) rfl) rfl rfl rfl, OpW.yes (OpL.cast (op_lenD Try.underlying22 (Ev.t 15 (.g (.d (.sl 6 (List.map encApi_Version l_0))))) rfl) (by rw [List.length_map])) rfl rfl rfl, OpW.yes (OpL.cast (op_gtr (Ev.t 16 (bI .i64 (l_0.length : Int))) (Ev.c _ rfl) rfl) (congrArg (fun b => bB b) hc9)) rfl rfl rfl, OpW.yes (op_move (Ev.t 17 (bB false)) rfl) rfl rfl rfl, OpW.no rfl rfl rfl rfl rfl, OpW.no rfl rfl rfl rfl rfl, OpW.no rfl rfl rfl rfl rfl, OpW.no rfl rfl rfl rfl rfl, OpW.no rfl rfl rfl rfl rfl, OpW.no rfl rfl rfl rfl rfl, OpW.no rfl rfl rfl rfl rfl, OpW.yes (op_pickF (Ev.t 18 (bB false)) (Ev.c _ rfl) rfl) rfl rfl rfl, OpW.plain (op_pickF (Ev.t 14 (bB false)) (Ev.t 26 (bB false)) rfl) rfl rfl, OpW.plain (op_move (Ev.t 27 (bB false)) rfl) rfl rfl, OpW.yes (op_move (Ev.t 6 (bI .i64 r1)) rfl) rfl rfl rfl, OpW.yes (op_move (Ev.t 0 (.g (.d (.sl 6 (List.map encApi_Version l_0))))) rfl) rfl rfl rfl, OpW.yes (OpL.cast (op_lenD Try.underlying22 (Ev.t 30 (.g (.d (.sl 6 (List.map encApi_Version l_0))))) rfl) (by rw [List.length_map])) rfl rfl rfl, OpW.yes (OpL.cast (op_lss (Ev.t 29 (bI .i64 r1)) (Ev.t 31 (bI .i64 (l_0.length : Int))) rfl) (congrArg (fun b => bB b) hc14)) rfl rfl rfl, OpW.yes (op_move (Ev.t 32 (bB true)) rfl) rfl rfl rfl, OpW.yes (op_move (Ev.t 0 (.g (.d (.sl 6 (List.map encApi_Version l_0))))) rfl) rfl rfl rfl, OpW.yes (op_move (Ev.t 6 (bI .i64 r1)) rfl) rfl rfl rfl, OpW.yes (op_index (cs := [.v (.string x15.Key), .v (.string x15.Value), .v (.bool x15.Gone), .v (.int .i64 x15.Stamp.N), .v (.int .i64 x15.Stamp.Site), .sl 3 (List.map encApi_Dep x15.Past)]) Try.underlying22 ti28 (idx_ok hx15).1 (idx_get hx15 encApi_Version) (Ev.t 34 (.g (.d (.sl 6 (List.map encApi_Version l_0))))) (Ev.t 35 (bI .i64 r1)) rfl) rfl rfl rfl, OpW.yes (op_fieldE (cs' := [.v (.int .i64 x15.Stamp.N), .v (.int .i64 x15.Stamp.Site), .sl 3 (List.map encApi_Dep x15.Past)]) Try.underlying28 rfl ti25 (by decide) rfl (Ev.t 36 (.ep [.v (.string x15.Key), .v (.string x15.Value), .v (.bool x15.Gone), .v (.int .i64 x15.Stamp.N), .v (.int .i64 x15.Stamp.Site), .sl 3 (List.map encApi_Dep x15.Past)])) rfl) rfl rfl rfl, OpW.yes (op_loadAE (ds := [.v (.int .i64 x15.Stamp.N), .v (.int .i64 x15.Stamp.Site)]) Try.underlying25 rfl ti25 rfl (Ev.t 37 (.ep [.v (.int .i64 x15.Stamp.N), .v (.int .i64 x15.Stamp.Site), .sl 3 (List.map encApi_Dep x15.Past)])) rfl) rfl rfl rfl, OpW.yes (op_fieldP (off' := 3) Try.underlying28 rfl ti25 (by decide) rfl (Ev.t 3 (.ptr 1003 0)) rfl) rfl rfl rfl, OpW.yes (op_loadAP (ds := [.v (.int .i64 v_1.Stamp.N), .v (.int .i64 v_1.Stamp.Site)]) Try.underlying25 rfl ti25 rfl (Ev.t 39 (.ptr 1003 3)) rfl) rfl rfl rfl, OpW.yes (op_eqA (us := [.int .i64 x15.Stamp.N, .int .i64 x15.Stamp.Site]) (vs := [.int .i64 v_1.Stamp.N, .int .i64 v_1.Stamp.Site]) rfl rfl Try.eqGuardType25 (fun w => eq25 x15.Stamp.N x15.Stamp.Site v_1.Stamp.N v_1.Stamp.Site w) (Ev.t 38 (.g (.agg [.v (.int .i64 x15.Stamp.N), .v (.int .i64 x15.Stamp.Site)]))) (Ev.t 40 (.g (.agg [.v (.int .i64 v_1.Stamp.N), .v (.int .i64 v_1.Stamp.Site)]))) rfl) rfl rfl rfl, OpW.yes (op_pickT (Ev.t 33 (bB true)) (Ev.t 41 (bB (decide (x15.Stamp.N = v_1.Stamp.N) && decide (x15.Stamp.Site = v_1.Stamp.Site)))) rfl) rfl rfl rfl, OpW.plain (op_pickF (Ev.t 28 (bB false)) (Ev.t 42 (bB (decide (x15.Stamp.N = v_1.Stamp.N) && decide (x15.Stamp.Site = v_1.Stamp.Site)))) rfl) rfl rfl, trivial⟩ ⟨rfl, rfl, rfl, rfl, trivial⟩ ⟨rfl, trivial⟩ rfl ?_
        exact G.arr (J6 (decide (x15.Stamp.N = v_1.Stamp.N) && decide (x15.Stamp.Site = v_1.Stamp.Site)) hF) ⟨rfl, rfl, rfl, rfl, trivial⟩ ⟨rfl, trivial⟩ rfl
      · refine G.drawn (effs := (⟨[(3, .one (.ptr 1003 0))], [(1003, some (.blk 28 [bS v_1.Key, bS v_1.Value, bB v_1.Gone, bI .i64 v_1.Stamp.N, bI .i64 v_1.Stamp.Site, .g (.d (.sl 3 (List.map encApi_Dep v_1.Past)))]))], [(11, .one (.g (.agg [.v (.string v_1.Key), .v (.string v_1.Value), .v (.bool v_1.Gone), .v (.int .i64 v_1.Stamp.N), .v (.int .i64 v_1.Stamp.Site), .sl 3 (List.map encApi_Dep v_1.Past)])))], []⟩ :: ⟨[(11, .one (.g (.agg [.v (.string v_1.Key), .v (.string v_1.Value), .v (.bool v_1.Gone), .v (.int .i64 v_1.Stamp.N), .v (.int .i64 v_1.Stamp.Site), .sl 3 (List.map encApi_Dep v_1.Past)])))], [], [(12, .one (bB r7))], []⟩ :: ⟨[(12, .one (bB r7))], [], [(13, .one (bB false))], []⟩ :: ⟨[(13, .one (bB false))], [], [(14, .one (bB false))], []⟩ :: ⟨[(14, .one (bB false)), (0, .one (.g (.d (.sl 6 (List.map encApi_Version l_0)))))], [], [(15, .one (.g (.d (.sl 6 (List.map encApi_Version l_0)))))], []⟩ :: ⟨[(14, .one (bB false)), (15, .one (.g (.d (.sl 6 (List.map encApi_Version l_0)))))], [], [(16, .one (bI .i64 (l_0.length : Int)))], []⟩ :: ⟨[(14, .one (bB false)), (16, .one (bI .i64 (l_0.length : Int)))], [], [(17, .one (bB false))], []⟩ :: ⟨[(14, .one (bB false)), (17, .one (bB false))], [], [(18, .one (bB false))], []⟩ :: ⟨[(18, .one (bB false))], [], [(19, .one (.x Go.undef))], []⟩ :: ⟨[(18, .one (bB false))], [], [(20, .one (.x Go.undef))], []⟩ :: ⟨[(18, .one (bB false))], [], [(21, .one (.x Go.undef))], []⟩ :: ⟨[(18, .one (bB false))], [], [(22, .one (.x Go.undef))], []⟩ :: ⟨[(18, .one (bB false))], [], [(23, .one (.x Go.undef))], []⟩ :: ⟨[(18, .one (bB false))], [], [(24, .one (.x Go.undef))], []⟩ :: ⟨[(18, .one (bB false))], [], [(25, .one (.x Go.undef))], []⟩ :: ⟨[(14, .one (bB false)), (18, .one (bB false))], [], [(26, .one (bB false))], []⟩ :: ⟨[(14, .one (bB false)), (26, .one (bB false))], [], [(27, .one (bB false))], []⟩ :: ⟨[(27, .one (bB false))], [], [(28, .one (bB false))], []⟩ :: ⟨[(28, .one (bB false)), (6, .one (bI .i64 r1))], [], [(29, .one (bI .i64 r1))], []⟩ :: ⟨[(28, .one (bB false)), (0, .one (.g (.d (.sl 6 (List.map encApi_Version l_0)))))], [], [(30, .one (.g (.d (.sl 6 (List.map encApi_Version l_0)))))], []⟩ :: ⟨[(28, .one (bB false)), (30, .one (.g (.d (.sl 6 (List.map encApi_Version l_0)))))], [], [(31, .one (bI .i64 (l_0.length : Int)))], []⟩ :: ⟨[(28, .one (bB false)), (29, .one (bI .i64 r1)), (31, .one (bI .i64 (l_0.length : Int)))], [], [(32, .one (bB false))], []⟩ :: ⟨[(28, .one (bB false)), (32, .one (bB false))], [], [(33, .one (bB false))], []⟩ :: ⟨[(33, .one (bB false))], [], [(34, .one (.x Go.undef))], []⟩ :: ⟨[(33, .one (bB false))], [], [(35, .one (.x Go.undef))], []⟩ :: ⟨[(33, .one (bB false))], [], [(36, .one (.x Go.undef))], []⟩ :: ⟨[(33, .one (bB false))], [], [(37, .one (.x Go.undef))], []⟩ :: ⟨[(33, .one (bB false))], [], [(38, .one (.x Go.undef))], []⟩ :: ⟨[(33, .one (bB false))], [], [(39, .one (.x Go.undef))], []⟩ :: ⟨[(33, .one (bB false))], [], [(40, .one (.x Go.undef))], []⟩ :: ⟨[(33, .one (bB false))], [], [(41, .one (.x Go.undef))], []⟩ :: ⟨[(28, .one (bB false)), (33, .one (bB false))], [], [(42, .one (bB false))], []⟩ :: ⟨[(28, .one (bB false)), (42, .one (bB false))], [], [(43, .one (bB false))], []⟩ :: [])) (deps := ([] :: [0] :: [0, 1] :: [0, 1, 2] :: [0, 1, 2, 3] :: [0, 1, 2, 3, 4] :: [0, 1, 2, 3, 4, 5] :: [0, 1, 2, 3, 4, 5, 6] :: [0, 1, 2, 3, 4, 5, 6, 7] :: [0, 1, 2, 3, 4, 5, 6, 7, 8] :: [0, 1, 2, 3, 4, 5, 6, 7, 8, 9] :: [0, 1, 2, 3, 4, 5, 6, 7, 8, 9, 10] :: [0, 1, 2, 3, 4, 5, 6, 7] :: [0, 1, 2, 3, 4, 5, 6, 7, 12] :: [0, 1, 2, 3, 4, 5, 6, 7, 8, 9, 10, 11, 12, 13] :: [0, 1, 2, 3, 4, 5, 6, 7, 8, 9, 10, 11, 12, 13, 14] :: [0, 1, 2, 3, 4, 5, 6, 7, 8, 9, 10, 11, 12, 13, 14, 15] :: [0, 1, 2, 3, 4, 5, 6, 7, 8, 9, 10, 11, 12, 13, 14, 15, 16] :: [0, 1, 2, 3, 4, 5, 6, 7, 8, 9, 10, 11, 12, 13, 14, 15, 16, 17] :: [0, 1, 2, 3, 4, 5, 6, 7, 8, 9, 10, 11, 12, 13, 14, 15, 16, 17] :: [0, 1, 2, 3, 4, 5, 6, 7, 8, 9, 10, 11, 12, 13, 14, 15, 16, 17, 19] :: (0 :: 1 :: 2 :: 3 :: 4 :: 5 :: 6 :: 7 :: 8 :: 9 :: 10 :: 11 :: 12 :: 13 :: 14 :: 15 :: 16 :: 17 :: 18 :: 19 :: 20 :: []) :: (0 :: 1 :: 2 :: 3 :: 4 :: 5 :: 6 :: 7 :: 8 :: 9 :: 10 :: 11 :: 12 :: 13 :: 14 :: 15 :: 16 :: 17 :: 18 :: 19 :: 20 :: 21 :: []) :: (0 :: 1 :: 2 :: 3 :: 4 :: 5 :: 6 :: 7 :: 8 :: 9 :: 10 :: 11 :: 12 :: 13 :: 14 :: 15 :: 16 :: 17 :: 18 :: 19 :: 20 :: 21 :: 22 :: []) :: (0 :: 1 :: 2 :: 3 :: 4 :: 5 :: 6 :: 7 :: 8 :: 9 :: 10 :: 11 :: 12 :: 13 :: 14 :: 15 :: 16 :: 17 :: 18 :: 19 :: 20 :: 21 :: 22 :: []) :: (0 :: 1 :: 2 :: 3 :: 4 :: 5 :: 6 :: 7 :: 8 :: 9 :: 10 :: 11 :: 12 :: 13 :: 14 :: 15 :: 16 :: 17 :: 18 :: 19 :: 20 :: 21 :: 22 :: 23 :: 24 :: []) :: (0 :: 1 :: 2 :: 3 :: 4 :: 5 :: 6 :: 7 :: 8 :: 9 :: 10 :: 11 :: 12 :: 13 :: 14 :: 15 :: 16 :: 17 :: 18 :: 19 :: 20 :: 21 :: 22 :: 23 :: 24 :: 25 :: []) :: (0 :: 1 :: 2 :: 3 :: 4 :: 5 :: 6 :: 7 :: 8 :: 9 :: 10 :: 11 :: 12 :: 13 :: 14 :: 15 :: 16 :: 17 :: 18 :: 19 :: 20 :: 21 :: 22 :: 23 :: 24 :: 25 :: 26 :: []) :: (0 :: 1 :: 2 :: 3 :: 4 :: 5 :: 6 :: 7 :: 8 :: 9 :: 10 :: 11 :: 12 :: 13 :: 14 :: 15 :: 16 :: 17 :: 18 :: 19 :: 20 :: 21 :: 22 :: []) :: (0 :: 1 :: 2 :: 3 :: 4 :: 5 :: 6 :: 7 :: 8 :: 9 :: 10 :: 11 :: 12 :: 13 :: 14 :: 15 :: 16 :: 17 :: 18 :: 19 :: 20 :: 21 :: 22 :: 28 :: []) :: (0 :: 1 :: 2 :: 3 :: 4 :: 5 :: 6 :: 7 :: 8 :: 9 :: 10 :: 11 :: 12 :: 13 :: 14 :: 15 :: 16 :: 17 :: 18 :: 19 :: 20 :: 21 :: 22 :: 23 :: 24 :: 25 :: 26 :: 27 :: 28 :: 29 :: []) :: (0 :: 1 :: 2 :: 3 :: 4 :: 5 :: 6 :: 7 :: 8 :: 9 :: 10 :: 11 :: 12 :: 13 :: 14 :: 15 :: 16 :: 17 :: 18 :: 19 :: 20 :: 21 :: 22 :: 23 :: 24 :: 25 :: 26 :: 27 :: 28 :: 29 :: 30 :: []) :: (0 :: 1 :: 2 :: 3 :: 4 :: 5 :: 6 :: 7 :: 8 :: 9 :: 10 :: 11 :: 12 :: 13 :: 14 :: 15 :: 16 :: 17 :: 18 :: 19 :: 20 :: 21 :: 22 :: 23 :: 24 :: 25 :: 26 :: 27 :: 28 :: 29 :: 30 :: 31 :: []) :: [])) (sl' := [(0, .one (.g (.d (.sl 6 (List.map encApi_Version l_0))))), (3, .one (.ptr 1003 0)), (6, .one (bI .i64 r1)), (43, .one (bB false))]) (hp' := [(1003, some (.blk 28 [bS v_1.Key, bS v_1.Value, bB v_1.Gone, bI .i64 v_1.Stamp.N, bI .i64 v_1.Stamp.Site, .g (.d (.sl 3 (List.map encApi_Dep v_1.Past)))]))]) follows rfl rfl rfl ⟨⟨rfl, trivial⟩, ⟨⟨rfl, rfl⟩, trivial⟩, ⟨rfl, trivial⟩, trivial, ⟨rfl, trivial⟩, trivial, ⟨rfl, trivial⟩, trivial, ⟨rfl, rfl, trivial⟩, trivial, ⟨rfl, rfl, trivial⟩, trivial, ⟨rfl, rfl, trivial⟩, trivial, ⟨rfl, rfl, trivial⟩, trivial, ⟨rfl, trivial⟩, trivial, ⟨rfl, trivial⟩, trivial, ⟨rfl, trivial⟩, trivial, ⟨rfl, trivial⟩, trivial, ⟨rfl, trivial⟩, trivial, ⟨rfl, trivial⟩, trivial, ⟨rfl, trivial⟩, trivial, ⟨rfl, rfl, trivial⟩, trivial, ⟨rfl, rfl, trivial⟩, trivial, ⟨rfl, trivial⟩, trivial, ⟨rfl, rfl, trivial⟩, trivial, ⟨rfl, rfl, trivial⟩, trivial, ⟨rfl, rfl, trivial⟩, trivial, ⟨rfl, rfl, rfl, trivial⟩, trivial, ⟨rfl, rfl, trivial⟩, trivial, ⟨rfl, trivial⟩, trivial, ⟨rfl, trivial⟩, trivial, ⟨rfl, trivial⟩, trivial, ⟨rfl, trivial⟩, trivial, ⟨rfl, trivial⟩, trivial, ⟨rfl, trivial⟩, trivial, ⟨rfl, trivial⟩, trivial, ⟨rfl, trivial⟩, trivial, ⟨rfl, rfl, trivial⟩, trivial, ⟨rfl, rfl, trivial⟩, trivial, trivial⟩ ⟨OpW.plain (op_loadAP (ds := [.v (.string v_1.Key), .v (.string v_1.Value), .v (.bool v_1.Gone), .v (.int .i64 v_1.Stamp.N), .v (.int .i64 v_1.Stamp.Site), .sl 3 (List.map encApi_Dep v_1.Past)]) Try.underlying28 rfl ti28 rfl (Ev.t 3 (.ptr 1003 0)) rfl) rfl rfl, OpW.plain (op_callQ (sv := .one (bB r7)) cf22 (ct_wire_Check v_1 r7 hr7) rfl rfl (EvQL.cons (EvQ.g (Ev.t 11 (.g (.agg [.v (.string v_1.Key), .v (.string v_1.Value), .v (.bool v_1.Gone), .v (.int .i64 v_1.Stamp.N), .v (.int .i64 v_1.Stamp.Site), .sl 3 (List.map encApi_Dep v_1.Past)])))) EvQL.nil) rfl) rfl rfl, OpW.plain (OpL.cast (op_not (Ev.t 12 (bB r7)) rfl) (congrArg (fun b => bB b) hc8)) rfl rfl, OpW.plain (op_move (Ev.t 13 (bB false)) rfl) rfl rfl, OpW.yes (op_move (Ev.t 0 (.g (.d (.sl 6 (List.map encApi_Version l_0))))) rfl) rfl rfl rfl, OpW.yes (OpL.cast (op_lenD Try.underlying22 (Ev.t 15 (.g (.d (.sl 6 (List.map encApi_Version l_0))))) rfl) (by rw [List.length_map])) rfl rfl rfl, OpW.yes (OpL.cast (op_gtr (Ev.t 16 (bI .i64 (l_0.length : Int))) (Ev.c _ rfl) rfl) (congrArg (fun b => bB b) hc9)) rfl rfl rfl, OpW.yes (op_move (Ev.t 17 (bB false)) rfl) rfl rfl rfl, OpW.no rfl rfl rfl rfl rfl, OpW.no rfl rfl rfl rfl rfl, OpW.no rfl rfl rfl rfl rfl, OpW.no rfl rfl rfl rfl rfl, OpW.no rfl rfl rfl rfl rfl, OpW.no rfl rfl rfl rfl rfl, OpW.no rfl rfl rfl rfl rfl, OpW.yes (op_pickF (Ev.t 18 (bB false)) (Ev.c _ rfl) rfl) rfl rfl rfl, OpW.plain (op_pickF (Ev.t 14 (bB false)) (Ev.t 26 (bB false)) rfl) rfl rfl, OpW.plain (op_move (Ev.t 27 (bB false)) rfl) rfl rfl, OpW.yes (op_move (Ev.t 6 (bI .i64 r1)) rfl) rfl rfl rfl, OpW.yes (op_move (Ev.t 0 (.g (.d (.sl 6 (List.map encApi_Version l_0))))) rfl) rfl rfl rfl, OpW.yes (OpL.cast (op_lenD Try.underlying22 (Ev.t 30 (.g (.d (.sl 6 (List.map encApi_Version l_0))))) rfl) (by rw [List.length_map])) rfl rfl rfl, OpW.yes (OpL.cast (op_lss (Ev.t 29 (bI .i64 r1)) (Ev.t 31 (bI .i64 (l_0.length : Int))) rfl) (congrArg (fun b => bB b) hc14)) rfl rfl rfl, OpW.yes (op_move (Ev.t 32 (bB false)) rfl) rfl rfl rfl, OpW.no rfl rfl rfl rfl rfl, OpW.no rfl rfl rfl rfl rfl, OpW.no rfl rfl rfl rfl rfl, OpW.no rfl rfl rfl rfl rfl, OpW.no rfl rfl rfl rfl rfl, OpW.no rfl rfl rfl rfl rfl, OpW.no rfl rfl rfl rfl rfl, OpW.no rfl rfl rfl rfl rfl, OpW.yes (op_pickF (Ev.t 33 (bB false)) (Ev.c _ rfl) rfl) rfl rfl rfl, OpW.plain (op_pickF (Ev.t 28 (bB false)) (Ev.t 42 (bB false)) rfl) rfl rfl, trivial⟩ ⟨rfl, rfl, rfl, rfl, trivial⟩ ⟨rfl, trivial⟩ rfl ?_
        exact G.arr (J6 false hF) ⟨rfl, rfl, rfl, rfl, trivial⟩ ⟨rfl, trivial⟩ rfl


set_option maxRecDepth 20000 in
set_option maxHeartbeats 2000000 in
theorem ct_ref03_Check (s_0 : Api_Stamp) (r : Bool) (hF : ref03_Check s_0 = some r) : Ct Try.prog 20 [.g (.agg (encApi_Stamp s_0))] (.one (.d (.v (.bool r)))) := by
  unfold ref03_Check at hF
  refine Ct.intro Try.func20 rfl Try.ntmps20 rfl rfl fun M w => ?_
  refine G.seq ?_
  refine G.region ?_
  refine G.op2 (op_boxA (k := 1001) (Ev.t 0 (.g (.agg [.v (.int .i64 s_0.N), .v (.int .i64 s_0.Site)]))) rfl) rfl ⟨rfl, trivial⟩ ⟨rfl, trivial⟩ ?_
  refine G.op1 (op_assign (Ev.c _ rfl) rfl) rfl trivial trivial ?_
  refine G.endOps ?_
  refine G.seq ?_
  refine G.region ?_
  refine G.op1 (op_fieldP (off' := 0) Try.underlying25 rfl ti3 (by decide) rfl (Ev.t 1 (.ptr 1001 0)) rfl) rfl ⟨rfl, trivial⟩ trivial ?_
  refine G.op1 (op_load1P (c := bI .i64 s_0.N) Try.underlying3 rfl rfl (Ev.t 3 (.ptr 1001 0)) rfl) rfl ⟨rfl, trivial⟩ ⟨rfl, trivial⟩ ?_
  refine G.op1 (op_geq (Ev.t 4 (bI .i64 s_0.N)) (Ev.c _ rfl) rfl) rfl ⟨rfl, trivial⟩ trivial ?_
  refine G.op1 (op_move (Ev.t 5 (bB (decide (1 ≤ s_0.N)))) rfl) rfl ⟨rfl, trivial⟩ trivial ?_
  refine G.joinL (T := Bool) 4 (fun y1 => ⟨[(1, .one (.ptr 1001 0)), (10, .one (bB y1))], [(1001, some (.blk 25 [bI .i64 s_0.N, bI .i64 s_0.Site]))]⟩) (fun y1 => ref03_Check_k1 s_0 y1 = some r) (fun y1 hF => ?_) (fun J6 => ?_)
  · unfold ref03_Check_k1 at hF
    refine G.op1 (op_move (Ev.t 10 (bB y1)) rfl) rfl ⟨rfl, trivial⟩ trivial ?_
    refine G.joinL (T := Bool) 4 (fun y2 => ⟨[(1, .one (.ptr 1001 0)), (15, .one (bB y2))], [(1001, some (.blk 25 [bI .i64 s_0.N, bI .i64 s_0.Site]))]⟩) (fun y2 => ref03_Check_k2 s_0 y2 = some r) (fun y2 hF => ?_) (fun J4 => ?_)
    · unfold ref03_Check_k2 at hF
      refine G.op1 (op_move (Ev.t 15 (bB y2)) rfl) rfl ⟨rfl, trivial⟩ trivial ?_
      refine ifS hF (fun hc3 hF => ?_) (fun hc3 hF => ?_)
      · refine G.known (t := 16) hc3 rfl ?_
        refine G.opG1 (op_fieldP (off' := 1) Try.underlying25 rfl ti3 (by decide) rfl (Ev.t 1 (.ptr 1001 0)) rfl) rfl rfl rfl ⟨rfl, trivial⟩ trivial ?_
        refine G.opG1 (op_load1P (c := bI .i64 s_0.Site) Try.underlying3 rfl rfl (Ev.t 17 (.ptr 1001 1)) rfl) rfl rfl rfl ⟨rfl, trivial⟩ ⟨rfl, trivial⟩ ?_
        refine G.opG1 (op_lss (Ev.t 18 (bI .i64 s_0.Site)) (Ev.c _ rfl) rfl) rfl rfl rfl ⟨rfl, trivial⟩ trivial ?_
        refine G.op1 (op_pickT (Ev.t 16 (bB true)) (Ev.t 19 (bB (decide (s_0.Site < 6)))) rfl) rfl ⟨rfl, rfl, trivial⟩ trivial ?_
        refine G.op1 (op_assign (Ev.t 20 (bB (decide (s_0.Site < 6)))) rfl) rfl ⟨rfl, trivial⟩ trivial ?_
        refine G.endOps ?_
        cases hF
        exact G.ret1 Try.results20 (RVar.tmp 2 _) ⟨rfl, trivial⟩ trivial
      · refine G.known (t := 16) hc3 rfl ?_
        refine G.opN1 rfl rfl rfl rfl rfl ?_
        refine G.opN1 rfl rfl rfl rfl rfl ?_
        refine G.opN1 rfl rfl rfl rfl rfl ?_
        refine G.op1 (op_pickF (Ev.t 16 (bB false)) (Ev.c _ rfl) rfl) rfl ⟨rfl, trivial⟩ trivial ?_
        refine G.op1 (op_assign (Ev.t 20 (bB false)) rfl) rfl ⟨rfl, trivial⟩ trivial ?_
        refine G.endOps ?_
        cases hF
        exact G.ret1 Try.results20 (RVar.tmp 2 _) ⟨rfl, trivial⟩ trivial
    refine ifS hF (fun hc5 hF => ?_) (fun hc5 hF => ?_)
    · refine G.known (t := 11) hc5 rfl ?_
      refine G.opG1 (op_fieldP (off' := 1) Try.underlying25 rfl ti3 (by decide) rfl (Ev.t 1 (.ptr 1001 0)) rfl) rfl rfl rfl ⟨rfl, trivial⟩ trivial ?_
      refine G.opG1 (op_load1P (c := bI .i64 s_0.Site) Try.underlying3 rfl rfl (Ev.t 12 (.ptr 1001 1)) rfl) rfl rfl rfl ⟨rfl, trivial⟩ ⟨rfl, trivial⟩ ?_
      refine G.opG1 (op_geq (Ev.t 13 (bI .i64 s_0.Site)) (Ev.c _ rfl) rfl) rfl rfl rfl ⟨rfl, trivial⟩ trivial ?_
      refine G.op1 (op_pickT (Ev.t 11 (bB true)) (Ev.t 14 (bB (decide (0 ≤ s_0.Site)))) rfl) rfl ⟨rfl, rfl, trivial⟩ trivial ?_
      exact G.arr (J4 (decide (0 ≤ s_0.Site)) hF) ⟨rfl, rfl, trivial⟩ ⟨rfl, trivial⟩ rfl
    · refine G.known (t := 11) hc5 rfl ?_
      refine G.opN1 rfl rfl rfl rfl rfl ?_
      refine G.opN1 rfl rfl rfl rfl rfl ?_
      refine G.opN1 rfl rfl rfl rfl rfl ?_
      refine G.op1 (op_pickF (Ev.t 11 (bB false)) (Ev.c _ rfl) rfl) rfl ⟨rfl, trivial⟩ trivial ?_
      exact G.arr (J4 false hF) ⟨rfl, rfl, trivial⟩ ⟨rfl, trivial⟩ rfl
  refine ifS hF (fun hc7 hF => ?_) (fun hc7 hF => ?_)
  · refine G.known (t := 6) hc7 rfl ?_
    refine G.opG1 (op_fieldP (off' := 0) Try.underlying25 rfl ti3 (by decide) rfl (Ev.t 1 (.ptr 1001 0)) rfl) rfl rfl rfl ⟨rfl, trivial⟩ trivial ?_
    refine G.opG1 (op_load1P (c := bI .i64 s_0.N) Try.underlying3 rfl rfl (Ev.t 7 (.ptr 1001 0)) rfl) rfl rfl rfl ⟨rfl, trivial⟩ ⟨rfl, trivial⟩ ?_
    refine G.opG1 (op_leq (Ev.t 8 (bI .i64 s_0.N)) (Ev.c _ rfl) rfl) rfl rfl rfl ⟨rfl, trivial⟩ trivial ?_
    refine G.op1 (op_pickT (Ev.t 6 (bB true)) (Ev.t 9 (bB (decide (s_0.N ≤ 1099511627776)))) rfl) rfl ⟨rfl, rfl, trivial⟩ trivial ?_
    exact G.arr (J6 (decide (s_0.N ≤ 1099511627776)) hF) ⟨rfl, rfl, trivial⟩ ⟨rfl, trivial⟩ rfl
  · refine G.known (t := 6) hc7 rfl ?_
    refine G.opN1 rfl rfl rfl rfl rfl ?_
    refine G.opN1 rfl rfl rfl rfl rfl ?_
    refine G.opN1 rfl rfl rfl rfl rfl ?_
    refine G.op1 (op_pickF (Ev.t 6 (bB false)) (Ev.c _ rfl) rfl) rfl ⟨rfl, trivial⟩ trivial ?_
    exact G.arr (J6 false hF) ⟨rfl, rfl, trivial⟩ ⟨rfl, trivial⟩ rfl


set_option maxRecDepth 20000 in
set_option maxHeartbeats 2000000 in
theorem ct_ref03_Less (a_0 : Api_Stamp) (b_1 : Api_Stamp) (r : Bool) (hF : ref03_Less a_0 b_1 = some r) : Ct Try.prog 16 [.g (.agg (encApi_Stamp a_0)), .g (.agg (encApi_Stamp b_1))] (.one (.d (.v (.bool r)))) := by
  unfold ref03_Less at hF
  refine Ct.intro Try.func16 rfl Try.ntmps16 rfl rfl fun M w => ?_
  refine G.seq ?_
  refine G.region ?_
  refine G.op2 (op_boxA (k := 1002) (Ev.t 0 (.g (.agg [.v (.int .i64 a_0.N), .v (.int .i64 a_0.Site)]))) rfl) rfl ⟨rfl, trivial⟩ ⟨rfl, trivial⟩ ?_
  refine G.op2 (op_boxA (k := 1003) (Ev.t 1 (.g (.agg [.v (.int .i64 b_1.N), .v (.int .i64 b_1.Site)]))) rfl) rfl ⟨rfl, trivial⟩ ⟨rfl, trivial⟩ ?_
  refine G.op1 (op_assign (Ev.c _ rfl) rfl) rfl trivial trivial ?_
  refine G.endOps ?_
  refine G.seq ?_
  refine G.seq ?_
  refine G.region ?_
  refine G.op1 (op_fieldP (off' := 0) Try.underlying25 rfl ti3 (by decide) rfl (Ev.t 2 (.ptr 1002 0)) rfl) rfl ⟨rfl, trivial⟩ trivial ?_
  refine G.op1 (op_load1P (c := bI .i64 a_0.N) Try.underlying3 rfl rfl (Ev.t 5 (.ptr 1002 0)) rfl) rfl ⟨rfl, trivial⟩ ⟨rfl, trivial⟩ ?_
  refine G.op1 (op_fieldP (off' := 0) Try.underlying25 rfl ti3 (by decide) rfl (Ev.t 3 (.ptr 1003 0)) rfl) rfl ⟨rfl, trivial⟩ trivial ?_
  refine G.op1 (op_load1P (c := bI .i64 b_1.N) Try.underlying3 rfl rfl (Ev.t 7 (.ptr 1003 0)) rfl) rfl ⟨rfl, trivial⟩ ⟨rfl, trivial⟩ ?_
  refine G.op1 (op_neI (Ev.t 6 (bI .i64 a_0.N)) (Ev.t 8 (bI .i64 b_1.N)) rfl) rfl ⟨rfl, rfl, trivial⟩ trivial ?_
  refine G.endOps ?_
  refine ifS hF (fun hc1 hF => ?_) (fun hc1 hF => ?_)
  · refine G.cond rfl (fun _ => ?_) (fun hx => by rw [hc1] at hx; cases hx)
    refine G.seq ?_
    refine G.region ?_
    refine G.op1 (op_fieldP (off' := 0) Try.underlying25 rfl ti3 (by decide) rfl (Ev.t 2 (.ptr 1002 0)) rfl) rfl ⟨rfl, trivial⟩ trivial ?_
    refine G.op1 (op_load1P (c := bI .i64 a_0.N) Try.underlying3 rfl rfl (Ev.t 10 (.ptr 1002 0)) rfl) rfl ⟨rfl, trivial⟩ ⟨rfl, trivial⟩ ?_
    refine G.op1 (op_fieldP (off' := 0) Try.underlying25 rfl ti3 (by decide) rfl (Ev.t 3 (.ptr 1003 0)) rfl) rfl ⟨rfl, trivial⟩ trivial ?_
    refine G.op1 (op_load1P (c := bI .i64 b_1.N) Try.underlying3 rfl rfl (Ev.t 12 (.ptr 1003 0)) rfl) rfl ⟨rfl, trivial⟩ ⟨rfl, trivial⟩ ?_
    refine G.op1 (op_lss (Ev.t 11 (bI .i64 a_0.N)) (Ev.t 13 (bI .i64 b_1.N)) rfl) rfl ⟨rfl, rfl, trivial⟩ trivial ?_
    refine G.op1 (op_assign (Ev.t 14 (bB (decide (a_0.N < b_1.N)))) rfl) rfl ⟨rfl, trivial⟩ trivial ?_
    refine G.endOps ?_
    cases hF
    exact G.ret1 Try.results16 (RVar.tmp 4 _) ⟨rfl, trivial⟩ trivial
  · refine G.cond rfl (fun hx => by rw [hc1] at hx; cases hx) (fun _ => ?_)
    refine G.skip ?_
    refine G.seq ?_
    refine G.region ?_
    refine G.op1 (op_fieldP (off' := 1) Try.underlying25 rfl ti3 (by decide) rfl (Ev.t 2 (.ptr 1002 0)) rfl) rfl ⟨rfl, trivial⟩ trivial ?_
    refine G.op1 (op_load1P (c := bI .i64 a_0.Site) Try.underlying3 rfl rfl (Ev.t 15 (.ptr 1002 1)) rfl) rfl ⟨rfl, trivial⟩ ⟨rfl, trivial⟩ ?_
    refine G.op1 (op_fieldP (off' := 1) Try.underlying25 rfl ti3 (by decide) rfl (Ev.t 3 (.ptr 1003 0)) rfl) rfl ⟨rfl, trivial⟩ trivial ?_
    refine G.op1 (op_load1P (c := bI .i64 b_1.Site) Try.underlying3 rfl rfl (Ev.t 17 (.ptr 1003 1)) rfl) rfl ⟨rfl, trivial⟩ ⟨rfl, trivial⟩ ?_
    refine G.op1 (op_lss (Ev.t 16 (bI .i64 a_0.Site)) (Ev.t 18 (bI .i64 b_1.Site)) rfl) rfl ⟨rfl, rfl, trivial⟩ trivial ?_
    refine G.op1 (op_assign (Ev.t 19 (bB (decide (a_0.Site < b_1.Site)))) rfl) rfl ⟨rfl, trivial⟩ trivial ?_
    refine G.endOps ?_
    cases hF
    exact G.ret1 Try.results16 (RVar.tmp 4 _) ⟨rfl, trivial⟩ trivial


set_option maxRecDepth 20000 in
set_option maxHeartbeats 2000000 in
theorem ct_law12_ChainOrder (l_0 : (List Api_Stamp)) (r : Bool) (hF : law12_ChainOrder l_0 = some r) : Ct Try.prog 7 [.g (.d (.sl 2 (List.map encApi_Stamp l_0)))] (.one (.d (.v (.bool r)))) := by
  unfold law12_ChainOrder at hF
  refine Ct.intro Try.func7 rfl Try.ntmps7 rfl rfl fun M w => ?_
  refine G.seq ?_
  refine G.region ?_
  refine G.op1 (op_assign (Ev.c _ rfl) rfl) rfl trivial trivial ?_
  refine G.endOps ?_
  refine G.seq ?_
  refine G.region ?_
  obtain ⟨r1, hr1, hF⟩ := bindS hF
  refine G.op1 (op_callQ (sv := .one (bB r1)) cf8 (ct_law12_awake r1 hr1) rfl rfl EvQL.nil rfl) rfl trivial trivial ?_
  refine G.op1 (op_assign (Ev.t 17 (bB r1)) rfl) rfl ⟨rfl, trivial⟩ trivial ?_
  refine G.endOps ?_
  refine G.seq ?_
  refine G.region ?_
  refine G.op1 (op_assign (Ev.n 6) rfl) rfl trivial trivial ?_
  refine G.endOps ?_
  refine G.seq ?_
  refine G.region ?_
  refine G.op1 (op_assign (Ev.n 6) rfl) rfl trivial trivial ?_
  refine G.endOps ?_
  refine G.seq ?_
  refine G.region ?_
  refine G.op1 (op_build (zs := [.v (.int .i64 0), .v (.int .i64 0)]) (ds := [.v (.int .i64 0), .v (.int .i64 0)]) Try.underlying25 ti25 (pl25 _ Try.underlying25) ⟨.v _ rfl, .v _ rfl, trivial⟩ EvP.nil rfl rfl) rfl trivial trivial ?_
  refine G.op2 (op_alloc (k := 1006) (cs := [bI .i64 0, bI .i64 0]) ti25 ⟨.v _ rfl, .v _ rfl, trivial⟩ rfl) rfl trivial ⟨rfl, trivial⟩ ?_
  refine G.op3 (op_storeA (cs' := [bI .i64 0, bI .i64 0]) ti25 rfl rfl (Ev.t 6 (.ptr 1006 0)) (Ev.t 18 (.g (.agg [.v (.int .i64 0), .v (.int .i64 0)])))) rfl ⟨rfl, rfl, trivial⟩ ⟨rfl, trivial⟩ ?_
  refine G.endOps ?_
  refine G.seq ?_
  refine G.region ?_
  refine G.op1 (op_move (Ev.t 0 (.g (.d (.sl 2 (List.map encApi_Stamp l_0))))) rfl) rfl ⟨rfl, trivial⟩ trivial ?_
  refine G.op1 (OpL.cast (op_lenD Try.underlying30 (Ev.t 19 (.g (.d (.sl 2 (List.map encApi_Stamp l_0))))) rfl) (by rw [List.length_map])) rfl ⟨rfl, trivial⟩ trivial ?_
  refine G.op1 (op_assign (Ev.t 20 (bI .i64 (l_0.length : Int))) rfl) rfl ⟨rfl, trivial⟩ trivial ?_
  refine G.endOps ?_
  refine G.seq ?_
  refine G.seq ?_
  refine G.region ?_
  refine G.op1 (op_move (Ev.t 7 (bI .i64 (l_0.length : Int))) rfl) rfl ⟨rfl, trivial⟩ trivial ?_
  refine G.op1 (op_gtr (Ev.t 21 (bI .i64 (l_0.length : Int))) (Ev.c _ rfl) rfl) rfl ⟨rfl, trivial⟩ trivial ?_
  refine G.endOps ?_
  refine G.joinC (T := Int) (fun y2 => ⟨[(0, .one (.g (.d (.sl 2 (List.map encApi_Stamp l_0))))), (3, .one (bB r1)), (4, .one (.g (.d (.sl 6 (List.map encApi_Version ([] : (List Api_Version))))))), (5, .one (.g (.d (.sl 6 (List.map encApi_Version ([] : (List Api_Version))))))), (6, .one (.ptr 1006 0)), (7, .one (bI .i64 y2))], [(1006, some (.blk 25 [bI .i64 0, bI .i64 0]))]⟩) (fun y2 => law12_ChainOrder_k1 l_0 r1 y2 = some r) (fun y2 hF => ?_) (fun J40 => ?_)
  · unfold law12_ChainOrder_k1 at hF
    refine G.seq ?_
    refine G.seq ?_
    refine G.region ?_
    refine G.op1 (op_assign (Ev.c _ rfl) rfl) rfl trivial trivial ?_
    refine G.endOps ?_
    refine G.joinC (T := (List Api_Version) × (List Api_Version) × Int × Int) (fun y3 => ⟨[(3, .one (bB r1)), (4, .one (.g (.d (.sl 6 (List.map encApi_Version y3.1))))), (5, .one (.g (.d (.sl 6 (List.map encApi_Version y3.2.1))))), (6, .one (.ptr 1006 0))], [(1006, some (.blk 25 [bI .i64 y3.2.2.1, bI .i64 y3.2.2.2]))]⟩) (fun y3 => law12_ChainOrder_k2 r1 y3 = some r) (fun y3 hF => ?_) (fun J17 => ?_)
    · unfold law12_ChainOrder_k2 at hF
      refine G.seq ?_
      refine G.region ?_
      refine G.op1 (op_move (Ev.t 4 (.g (.d (.sl 6 (List.map encApi_Version y3.1))))) rfl) rfl ⟨rfl, trivial⟩ trivial ?_
      obtain ⟨r4, hr4, hF⟩ := bindS hF
      refine G.op1 (op_call (sv := .tup [.g (.agg [.v (.string r4.1.Key), .v (.string r4.1.Value), .v (.bool r4.1.Gone), .v (.int .i64 r4.1.Stamp.N), .v (.int .i64 r4.1.Stamp.Site), .sl 3 (List.map encApi_Dep r4.1.Past)]), bB r4.2]) cf13 (ct_chain_Head y3.1 r4 hr4) rfl (EvL.cons (Ev.t 78 (.g (.d (.sl 6 (List.map encApi_Version y3.1))))) EvL.nil) rfl) rfl ⟨rfl, trivial⟩ trivial ?_
      refine G.op1 (op_moveS (t := 79) (sv := .tup [.g (.agg [.v (.string r4.1.Key), .v (.string r4.1.Value), .v (.bool r4.1.Gone), .v (.int .i64 r4.1.Stamp.N), .v (.int .i64 r4.1.Stamp.Site), .sl 3 (List.map encApi_Dep r4.1.Past)]), bB r4.2]) rfl) rfl ⟨rfl, trivial⟩ trivial ?_
      refine G.op1 (op_extract (l := [.g (.agg [.v (.string r4.1.Key), .v (.string r4.1.Value), .v (.bool r4.1.Gone), .v (.int .i64 r4.1.Stamp.N), .v (.int .i64 r4.1.Stamp.Site), .sl 3 (List.map encApi_Dep r4.1.Past)]), bB r4.2]) (c := .g (.agg [.v (.string r4.1.Key), .v (.string r4.1.Value), .v (.bool r4.1.Gone), .v (.int .i64 r4.1.Stamp.N), .v (.int .i64 r4.1.Stamp.Site), .sl 3 (List.map encApi_Dep r4.1.Past)])) rfl rfl) rfl ⟨rfl, trivial⟩ trivial ?_
      refine G.op1 (op_extract (l := [.g (.agg [.v (.string r4.1.Key), .v (.string r4.1.Value), .v (.bool r4.1.Gone), .v (.int .i64 r4.1.Stamp.N), .v (.int .i64 r4.1.Stamp.Site), .sl 3 (List.map encApi_Dep r4.1.Past)]), bB r4.2]) (c := bB r4.2) rfl rfl) rfl ⟨rfl, trivial⟩ trivial ?_
      refine G.op2 (op_alloc (k := 1014) (cs := [bS ByteArray.empty, bS ByteArray.empty, bB false, bI .i64 0, bI .i64 0, .g (.d (.sl 3 (List.map encApi_Dep ([] : (List Api_Dep)))))]) ti28 ⟨.v _ rfl, .v _ rfl, .v _ rfl, .v _ rfl, .v _ rfl, .n 3, trivial⟩ rfl) rfl trivial ⟨rfl, trivial⟩ ?_
      refine G.op3 (op_storeA (cs' := [bS r4.1.Key, bS r4.1.Value, bB r4.1.Gone, bI .i64 r4.1.Stamp.N, bI .i64 r4.1.Stamp.Site, .g (.d (.sl 3 (List.map encApi_Dep r4.1.Past)))]) ti28 rfl rfl (Ev.t 14 (.ptr 1014 0)) (Ev.t 80 (.g (.agg [.v (.string r4.1.Key), .v (.string r4.1.Value), .v (.bool r4.1.Gone), .v (.int .i64 r4.1.Stamp.N), .v (.int .i64 r4.1.Stamp.Site), .sl 3 (List.map encApi_Dep r4.1.Past)])))) rfl ⟨rfl, rfl, trivial⟩ ⟨rfl, trivial⟩ ?_
      refine G.op1 (op_assign (Ev.t 81 (bB r4.2)) rfl) rfl ⟨rfl, trivial⟩ trivial ?_
      refine G.endOps ?_
      refine G.seq ?_
      refine G.region ?_
      refine G.op1 (op_move (Ev.t 4 (.g (.d (.sl 6 (List.map encApi_Version y3.1))))) rfl) rfl ⟨rfl, trivial⟩ trivial ?_
      refine G.op1 (op_move (Ev.t 5 (.g (.d (.sl 6 (List.map encApi_Version y3.2.1))))) rfl) rfl ⟨rfl, trivial⟩ trivial ?_
      obtain ⟨r5, hr5, hF⟩ := bindS hF
      refine G.op1 (op_callQ (sv := .one (bB r5)) cf18 (ct_ref12_Same y3.1 y3.2.1 r5 hr5) rfl rfl (EvQL.cons (EvQ.g (Ev.t 82 (.g (.d (.sl 6 (List.map encApi_Version y3.1)))))) (EvQL.cons (EvQ.g (Ev.t 83 (.g (.d (.sl 6 (List.map encApi_Version y3.2.1)))))) EvQL.nil)) rfl) rfl ⟨rfl, rfl, trivial⟩ trivial ?_
      refine G.op1 (op_assign (Ev.t 84 (bB r5)) rfl) rfl ⟨rfl, trivial⟩ trivial ?_
      refine G.endOps ?_
      refine G.seq ?_
      refine G.region ?_
      refine G.op1 (op_move (Ev.t 3 (bB r1)) rfl) rfl ⟨rfl, trivial⟩ trivial ?_
      refine G.op1 (op_move (Ev.t 85 (bB r1)) rfl) rfl ⟨rfl, trivial⟩ trivial ?_
      refine G.joinL (T := Bool) 2 (fun y6 => ⟨[(4, .one (.g (.d (.sl 6 (List.map encApi_Version y3.1))))), (6, .one (.ptr 1006 0)), (14, .one (.ptr 1014 0)), (15, .one (bB r4.2)), (88, .one (bB y6))], [(1006, some (.blk 25 [bI .i64 y3.2.2.1, bI .i64 y3.2.2.2])), (1014, some (.blk 28 [bS r4.1.Key, bS r4.1.Value, bB r4.1.Gone, bI .i64 r4.1.Stamp.N, bI .i64 r4.1.Stamp.Site, .g (.d (.sl 3 (List.map encApi_Dep r4.1.Past)))]))]⟩) (fun y6 => law12_ChainOrder_k3 y3 r4 y6 = some r) (fun y6 hF => ?_) (fun J15 => ?_)
      · unfold law12_ChainOrder_k3 at hF
        refine G.op1 (op_move (Ev.t 88 (bB y6)) rfl) rfl ⟨rfl, trivial⟩ trivial ?_
        refine G.joinL (T := Bool) 3 (fun y7 => ⟨[(6, .one (.ptr 1006 0)), (14, .one (.ptr 1014 0)), (15, .one (bB r4.2)), (92, .one (bB y7))], [(1006, some (.blk 25 [bI .i64 y3.2.2.1, bI .i64 y3.2.2.2])), (1014, some (.blk 28 [bS r4.1.Key, bS r4.1.Value, bB r4.1.Gone, bI .i64 r4.1.Stamp.N, bI .i64 r4.1.Stamp.Site, .g (.d (.sl 3 (List.map encApi_Dep r4.1.Past)))]))]⟩) (fun y7 => law12_ChainOrder_k4 y3 r4 y7 = some r) (fun y7 hF => ?_) (fun J12 => ?_)
        · unfold law12_ChainOrder_k4 at hF
          refine G.op1 (op_move (Ev.t 92 (bB y7)) rfl) rfl ⟨rfl, trivial⟩ trivial ?_
          refine G.joinL (T := Bool) 6 (fun y8 => ⟨[(6, .one (.ptr 1006 0)), (14, .one (.ptr 1014 0)), (99, .one (bB y8))], [(1006, some (.blk 25 [bI .i64 y3.2.2.1, bI .i64 y3.2.2.2])), (1014, some (.blk 28 [bS r4.1.Key, bS r4.1.Value, bB r4.1.Gone, bI .i64 r4.1.Stamp.N, bI .i64 r4.1.Stamp.Site, .g (.d (.sl 3 (List.map encApi_Dep r4.1.Past)))]))]⟩) (fun y8 => law12_ChainOrder_k5 y3 r4 y8 = some r) (fun y8 hF => ?_) (fun J10 => ?_)
          · unfold law12_ChainOrder_k5 at hF
            refine G.op1 (op_move (Ev.t 99 (bB y8)) rfl) rfl ⟨rfl, trivial⟩ trivial ?_
            refine ifS hF (fun hc9 hF => ?_) (fun hc9 hF => ?_)
            · refine G.known (t := 100) hc9 rfl ?_
              refine G.opG1 (op_fieldP (off' := 3) Try.underlying28 rfl ti25 (by decide) rfl (Ev.t 14 (.ptr 1014 0)) rfl) rfl rfl rfl ⟨rfl, trivial⟩ trivial ?_
              refine G.opG1 (op_loadAP (ds := [.v (.int .i64 r4.1.Stamp.N), .v (.int .i64 r4.1.Stamp.Site)]) Try.underlying25 rfl ti25 rfl (Ev.t 101 (.ptr 1014 3)) rfl) rfl rfl rfl ⟨rfl, trivial⟩ ⟨rfl, trivial⟩ ?_
              refine G.opG1 (op_loadAP (ds := [.v (.int .i64 y3.2.2.1), .v (.int .i64 y3.2.2.2)]) Try.underlying25 rfl ti25 rfl (Ev.t 6 (.ptr 1006 0)) rfl) rfl rfl rfl ⟨rfl, trivial⟩ ⟨rfl, trivial⟩ ?_
              refine G.opG1 (op_eqA (us := [.int .i64 r4.1.Stamp.N, .int .i64 r4.1.Stamp.Site]) (vs := [.int .i64 y3.2.2.1, .int .i64 y3.2.2.2]) rfl rfl Try.eqGuardType25 (fun w => eq25 r4.1.Stamp.N r4.1.Stamp.Site y3.2.2.1 y3.2.2.2 w) (Ev.t 102 (.g (.agg [.v (.int .i64 r4.1.Stamp.N), .v (.int .i64 r4.1.Stamp.Site)]))) (Ev.t 103 (.g (.agg [.v (.int .i64 y3.2.2.1), .v (.int .i64 y3.2.2.2)]))) rfl) rfl rfl rfl ⟨rfl, rfl, trivial⟩ trivial ?_
              refine G.op1 (op_pickT (Ev.t 100 (bB true)) (Ev.t 104 (bB (decide (r4.1.Stamp.N = y3.2.2.1) && decide (r4.1.Stamp.Site = y3.2.2.2)))) rfl) rfl ⟨rfl, rfl, trivial⟩ trivial ?_
              refine G.op1 (op_assign (Ev.t 105 (bB (decide (r4.1.Stamp.N = y3.2.2.1) && decide (r4.1.Stamp.Site = y3.2.2.2)))) rfl) rfl ⟨rfl, trivial⟩ trivial ?_
              refine G.endOps ?_
              cases hF
              exact G.ret1 Try.results7 (RVar.tmp 2 _) ⟨rfl, trivial⟩ trivial
            · refine G.known (t := 100) hc9 rfl ?_
              refine G.opN1 rfl rfl rfl rfl rfl ?_
              refine G.opN1 rfl rfl rfl rfl rfl ?_
              refine G.opN1 rfl rfl rfl rfl rfl ?_
              refine G.opN1 rfl rfl rfl rfl rfl ?_
              refine G.op1 (op_pickF (Ev.t 100 (bB false)) (Ev.c _ rfl) rfl) rfl ⟨rfl, trivial⟩ trivial ?_
              refine G.op1 (op_assign (Ev.t 105 (bB false)) rfl) rfl ⟨rfl, trivial⟩ trivial ?_
              refine G.endOps ?_
              cases hF
              exact G.ret1 Try.results7 (RVar.tmp 2 _) ⟨rfl, trivial⟩ trivial
          refine ifS hF (fun hc11 hF => ?_) (fun hc11 hF => ?_)
          · refine G.known (t := 93) hc11 rfl ?_
            refine G.opG1 (op_move (Ev.t 15 (bB r4.2)) rfl) rfl rfl rfl ⟨rfl, trivial⟩ trivial ?_
            refine G.opG1 (op_fieldP (off' := 0) Try.underlying25 rfl ti3 (by decide) rfl (Ev.t 6 (.ptr 1006 0)) rfl) rfl rfl rfl ⟨rfl, trivial⟩ trivial ?_
            refine G.opG1 (op_load1P (c := bI .i64 y3.2.2.1) Try.underlying3 rfl rfl (Ev.t 95 (.ptr 1006 0)) rfl) rfl rfl rfl ⟨rfl, trivial⟩ ⟨rfl, trivial⟩ ?_
            refine G.opG1 (op_gtr (Ev.t 96 (bI .i64 y3.2.2.1)) (Ev.c _ rfl) rfl) rfl rfl rfl ⟨rfl, trivial⟩ trivial ?_
            refine G.opG1 (op_eqB Try.underlying4 (Ev.t 94 (bB r4.2)) (Ev.t 97 (bB (decide (0 < y3.2.2.1)))) rfl) rfl rfl rfl ⟨rfl, rfl, trivial⟩ trivial ?_
            refine G.op1 (op_pickT (Ev.t 93 (bB true)) (Ev.t 98 (bB (r4.2 == (decide (0 < y3.2.2.1))))) rfl) rfl ⟨rfl, rfl, trivial⟩ trivial ?_
            exact G.arr (J10 (r4.2 == (decide (0 < y3.2.2.1))) hF) ⟨rfl, rfl, rfl, trivial⟩ ⟨rfl, rfl, trivial⟩ rfl
          · refine G.known (t := 93) hc11 rfl ?_
            refine G.opN1 rfl rfl rfl rfl rfl ?_
            refine G.opN1 rfl rfl rfl rfl rfl ?_
            refine G.opN1 rfl rfl rfl rfl rfl ?_
            refine G.opN1 rfl rfl rfl rfl rfl ?_
            refine G.opN1 rfl rfl rfl rfl rfl ?_
            refine G.op1 (op_pickF (Ev.t 93 (bB false)) (Ev.c _ rfl) rfl) rfl ⟨rfl, trivial⟩ trivial ?_
            exact G.arr (J10 false hF) ⟨rfl, rfl, rfl, trivial⟩ ⟨rfl, rfl, trivial⟩ rfl
        refine ifS hF (fun hc13 hF => ?_) (fun hc13 hF => ?_)
        · refine G.known (t := 89) hc13 rfl ?_
          refine G.opG1 (op_move (Ev.t 4 (.g (.d (.sl 6 (List.map encApi_Version y3.1))))) rfl) rfl rfl rfl ⟨rfl, trivial⟩ trivial ?_
          obtain ⟨r14, hr14, hF⟩ := bindS hF
          refine G.opG1 (op_callQ (sv := .one (bB r14)) cf9 (ct_chain_Check y3.1 r14 hr14) rfl rfl (EvQL.cons (EvQ.g (Ev.t 90 (.g (.d (.sl 6 (List.map encApi_Version y3.1)))))) EvQL.nil) rfl) rfl rfl rfl ⟨rfl, trivial⟩ trivial ?_
          refine G.op1 (op_pickT (Ev.t 89 (bB true)) (Ev.t 91 (bB r14)) rfl) rfl ⟨rfl, rfl, trivial⟩ trivial ?_
          exact G.arr (J12 r14 hF) ⟨rfl, rfl, rfl, rfl, trivial⟩ ⟨rfl, rfl, trivial⟩ rfl
        · refine G.known (t := 89) hc13 rfl ?_
          refine G.opN1 rfl rfl rfl rfl rfl ?_
          refine G.opN1 rfl rfl rfl rfl rfl ?_
          refine G.op1 (op_pickF (Ev.t 89 (bB false)) (Ev.c _ rfl) rfl) rfl ⟨rfl, trivial⟩ trivial ?_
          exact G.arr (J12 false hF) ⟨rfl, rfl, rfl, rfl, trivial⟩ ⟨rfl, rfl, trivial⟩ rfl
      refine ifS hF (fun hc16 hF => ?_) (fun hc16 hF => ?_)
      · refine G.known (t := 86) hc16 rfl ?_
        refine G.opG1 (op_move (Ev.t 16 (bB r5)) rfl) rfl rfl rfl ⟨rfl, trivial⟩ trivial ?_
        refine G.op1 (op_pickT (Ev.t 86 (bB true)) (Ev.t 87 (bB r5)) rfl) rfl ⟨rfl, rfl, trivial⟩ trivial ?_
        exact G.arr (J15 r5 hF) ⟨rfl, rfl, rfl, rfl, rfl, trivial⟩ ⟨rfl, rfl, trivial⟩ rfl
      · refine G.known (t := 86) hc16 rfl ?_
        refine G.opN1 rfl rfl rfl rfl rfl ?_
        refine G.op1 (op_pickF (Ev.t 86 (bB false)) (Ev.c _ rfl) rfl) rfl ⟨rfl, trivial⟩ trivial ?_
        exact G.arr (J15 false hF) ⟨rfl, rfl, rfl, rfl, rfl, trivial⟩ ⟨rfl, rfl, trivial⟩ rfl
    refine G.block ?_
    refine G.keep (sl' := [(0, .one (.g (.d (.sl 2 (List.map encApi_Stamp l_0))))), (3, .one (bB r1)), (4, .one (.g (.d (.sl 6 (List.map encApi_Version ([] : (List Api_Version))))))), (5, .one (.g (.d (.sl 6 (List.map encApi_Version ([] : (List Api_Version))))))), (6, .one (.ptr 1006 0)), (7, .one (bI .i64 y2)), (8, .one (bI .i64 0))]) (hp' := [(1006, some (.blk 25 [bI .i64 0, bI .i64 0]))]) ⟨rfl, rfl, rfl, rfl, rfl, rfl, rfl, trivial⟩ ⟨rfl, trivial⟩ rfl ?_
    refine G.loopF (fun (v18 : (List Api_Version) × (List Api_Version) × Int × Int × Int) => ⟨[(0, .one (.g (.d (.sl 2 (List.map encApi_Stamp l_0))))), (3, .one (bB r1)), (4, .one (.g (.d (.sl 6 (List.map encApi_Version v18.1))))), (5, .one (.g (.d (.sl 6 (List.map encApi_Version v18.2.1))))), (6, .one (.ptr 1006 0)), (7, .one (bI .i64 y2)), (8, .one (bI .i64 v18.2.2.1))], [(1006, some (.blk 25 [bI .i64 v18.2.2.2.1, bI .i64 v18.2.2.2.2]))]⟩) hF rfl (fun K21 again20 v18 J19 hF => ?_)
    unfold law12_ChainOrder_l6 at hF
    refine G.seq ?_
    refine G.seq ?_
    refine G.region ?_
    refine G.op1 (op_move (Ev.t 8 (bI .i64 v18.2.2.1)) rfl) rfl ⟨rfl, trivial⟩ trivial ?_
    refine G.op1 (op_move (Ev.t 7 (bI .i64 y2)) rfl) rfl ⟨rfl, trivial⟩ trivial ?_
    refine G.op1 (op_lss (Ev.t 23 (bI .i64 v18.2.2.1)) (Ev.t 24 (bI .i64 y2)) rfl) rfl ⟨rfl, rfl, trivial⟩ trivial ?_
    refine G.endOps ?_
    refine ifS hF (fun hc22 hF => ?_) (fun hc22 hF => ?_)
    · refine G.cond rfl (fun _ => ?_) (fun hx => by rw [hc22] at hx; cases hx)
      refine G.skip ?_
      refine G.seq ?_
      refine G.block ?_
      refine G.seq ?_
      refine G.region ?_
      refine G.op1 (op_move (Ev.t 0 (.g (.d (.sl 2 (List.map encApi_Stamp l_0))))) rfl) rfl ⟨rfl, trivial⟩ trivial ?_
      refine G.op1 (op_move (Ev.t 8 (bI .i64 v18.2.2.1)) rfl) rfl ⟨rfl, trivial⟩ trivial ?_
      obtain ⟨x23, hx23, hF⟩ := bindS hF
      refine G.op1 (op_index (cs := [.v (.int .i64 x23.N), .v (.int .i64 x23.Site)]) Try.underlying30 ti25 (idx_ok hx23).1 (idx_get hx23 encApi_Stamp) (Ev.t 28 (.g (.d (.sl 2 (List.map encApi_Stamp l_0))))) (Ev.t 29 (bI .i64 v18.2.2.1)) rfl) rfl ⟨rfl, rfl, trivial⟩ trivial ?_
      refine G.op1 (op_loadAE (ds := [.v (.int .i64 x23.N), .v (.int .i64 x23.Site)]) Try.underlying25 rfl ti25 rfl (Ev.t 30 (.ep [.v (.int .i64 x23.N), .v (.int .i64 x23.Site)])) rfl) rfl ⟨rfl, trivial⟩ trivial ?_
      refine G.op1 (op_build (zs := [.v (.string ByteArray.empty), .v (.string ByteArray.empty), .v (.bool false), .v (.int .i64 0), .v (.int .i64 0), .sl 3 (List.map encApi_Dep ([] : (List Api_Dep)))]) (ds := [.v (.string (ByteArray.mk #[97])), .v (.string ByteArray.empty), .v (.bool false), .v (.int .i64 x23.N), .v (.int .i64 x23.Site), .sl 3 (List.map encApi_Dep ([] : (List Api_Dep)))]) Try.underlying28 ti28 (pl28 _ Try.underlying28) ⟨.v _ rfl, .v _ rfl, .v _ rfl, .v _ rfl, .v _ rfl, .n 3, trivial⟩ (EvP.cons (Ev.c _ rfl) (EvP.cons (Ev.t 31 (.g (.agg [.v (.int .i64 x23.N), .v (.int .i64 x23.Site)]))) EvP.nil)) rfl rfl) rfl ⟨rfl, trivial⟩ trivial ?_
      refine G.op2 (op_alloc (k := 1009) (cs := [bS ByteArray.empty, bS ByteArray.empty, bB false, bI .i64 0, bI .i64 0, .g (.d (.sl 3 (List.map encApi_Dep ([] : (List Api_Dep)))))]) ti28 ⟨.v _ rfl, .v _ rfl, .v _ rfl, .v _ rfl, .v _ rfl, .n 3, trivial⟩ rfl) rfl trivial ⟨rfl, trivial⟩ ?_
      refine G.op3 (op_storeA (cs' := [bS (ByteArray.mk #[97]), bS ByteArray.empty, bB false, bI .i64 x23.N, bI .i64 x23.Site, .g (.d (.sl 3 (List.map encApi_Dep ([] : (List Api_Dep)))))]) ti28 rfl rfl (Ev.t 9 (.ptr 1009 0)) (Ev.t 32 (.g (.agg [.v (.string (ByteArray.mk #[97])), .v (.string ByteArray.empty), .v (.bool false), .v (.int .i64 x23.N), .v (.int .i64 x23.Site), .sl 3 (List.map encApi_Dep ([] : (List Api_Dep)))])))) rfl ⟨rfl, rfl, trivial⟩ ⟨rfl, trivial⟩ ?_
      refine G.endOps ?_
      refine G.seq ?_
      refine G.region ?_
      refine G.op1 (op_move (Ev.t 4 (.g (.d (.sl 6 (List.map encApi_Version v18.1))))) rfl) rfl ⟨rfl, trivial⟩ trivial ?_
      refine G.op1 (op_loadAP (ds := [.v (.string (ByteArray.mk #[97])), .v (.string ByteArray.empty), .v (.bool false), .v (.int .i64 x23.N), .v (.int .i64 x23.Site), .sl 3 (List.map encApi_Dep ([] : (List Api_Dep)))]) Try.underlying28 rfl ti28 rfl (Ev.t 9 (.ptr 1009 0)) rfl) rfl ⟨rfl, trivial⟩ ⟨rfl, trivial⟩ ?_
      obtain ⟨r24, hr24, hF⟩ := bindS hF
      refine G.op1 (op_call (sv := .tup [.g (.d (.sl 6 (List.map encApi_Version r24.1))), bB r24.2]) cf19 (ct_chain_Put v18.1 (Api_Version.mk (ByteArray.mk #[97]) ByteArray.empty false x23 ([] : (List Api_Dep))) r24 hr24) rfl (EvL.cons (Ev.t 34 (.g (.d (.sl 6 (List.map encApi_Version v18.1))))) (EvL.cons (Ev.t 35 (.g (.agg [.v (.string (ByteArray.mk #[97])), .v (.string ByteArray.empty), .v (.bool false), .v (.int .i64 x23.N), .v (.int .i64 x23.Site), .sl 3 (List.map encApi_Dep ([] : (List Api_Dep)))]))) EvL.nil)) rfl) rfl ⟨rfl, rfl, trivial⟩ trivial ?_
      refine G.op1 (op_moveS (t := 36) (sv := .tup [.g (.d (.sl 6 (List.map encApi_Version r24.1))), bB r24.2]) rfl) rfl ⟨rfl, trivial⟩ trivial ?_
      refine G.op1 (op_extract (l := [.g (.d (.sl 6 (List.map encApi_Version r24.1))), bB r24.2]) (c := .g (.d (.sl 6 (List.map encApi_Version r24.1)))) rfl rfl) rfl ⟨rfl, trivial⟩ trivial ?_
      refine G.op1 (op_extract (l := [.g (.d (.sl 6 (List.map encApi_Version r24.1))), bB r24.2]) (c := bB r24.2) rfl rfl) rfl ⟨rfl, trivial⟩ trivial ?_
      refine G.op1 (op_assign (Ev.t 37 (.g (.d (.sl 6 (List.map encApi_Version r24.1))))) rfl) rfl ⟨rfl, trivial⟩ trivial ?_
      refine G.op1 (op_assign (Ev.t 38 (bB r24.2)) rfl) rfl ⟨rfl, trivial⟩ trivial ?_
      refine G.endOps ?_
      refine G.seq ?_
      refine G.region ?_
      refine G.op1 (op_move (Ev.t 0 (.g (.d (.sl 2 (List.map encApi_Stamp l_0))))) rfl) rfl ⟨rfl, trivial⟩ trivial ?_
      refine G.op1 (op_move (Ev.t 8 (bI .i64 v18.2.2.1)) rfl) rfl ⟨rfl, trivial⟩ trivial ?_
      obtain ⟨x25, hx25, hF⟩ := bindS hF
      refine G.op1 (op_index (cs := [.v (.int .i64 x25.N), .v (.int .i64 x25.Site)]) Try.underlying30 ti25 (idx_ok hx25).1 (idx_get hx25 encApi_Stamp) (Ev.t 39 (.g (.d (.sl 2 (List.map encApi_Stamp l_0))))) (Ev.t 40 (bI .i64 v18.2.2.1)) rfl) rfl ⟨rfl, rfl, trivial⟩ trivial ?_
      refine G.op1 (op_loadAE (ds := [.v (.int .i64 x25.N), .v (.int .i64 x25.Site)]) Try.underlying25 rfl ti25 rfl (Ev.t 41 (.ep [.v (.int .i64 x25.N), .v (.int .i64 x25.Site)])) rfl) rfl ⟨rfl, trivial⟩ trivial ?_
      obtain ⟨r26, hr26, hF⟩ := bindS hF
      refine G.op1 (op_callQ (sv := .one (bB r26)) cf20 (ct_ref03_Check x25 r26 hr26) rfl rfl (EvQL.cons (EvQ.g (Ev.t 42 (.g (.agg [.v (.int .i64 x25.N), .v (.int .i64 x25.Site)])))) EvQL.nil) rfl) rfl ⟨rfl, trivial⟩ trivial ?_
      refine G.op1 (op_assign (Ev.t 43 (bB r26)) rfl) rfl ⟨rfl, trivial⟩ trivial ?_
      refine G.endOps ?_
      refine G.seq ?_
      refine G.seq ?_
      refine G.joinC (T := Bool) (fun y27 => ⟨[(0, .one (.g (.d (.sl 2 (List.map encApi_Stamp l_0))))), (3, .one (bB r1)), (5, .one (.g (.d (.sl 6 (List.map encApi_Version v18.2.1))))), (6, .one (.ptr 1006 0)), (7, .one (bI .i64 y2)), (8, .one (bI .i64 v18.2.2.1)), (10, .one (.g (.d (.sl 6 (List.map encApi_Version r24.1))))), (12, .one (bB r26)), (48, .one (bB y27))], [(1006, some (.blk 25 [bI .i64 v18.2.2.2.1, bI .i64 v18.2.2.2.2]))]⟩) (fun y27 => law12_ChainOrder_k7 l_0 y2 again20 v18 r24 r26 y27 = some r) (fun y27 hF => ?_) (fun J38 => ?_)
      · unfold law12_ChainOrder_k7 at hF
        refine ifS hF (fun hc28 hF => ?_) (fun hc28 hF => ?_)
        · refine G.cond rfl (fun _ => ?_) (fun hx => by rw [hc28] at hx; cases hx)
          refine G.seq ?_
          refine G.region ?_
          refine G.op1 (op_assign (Ev.c _ rfl) rfl) rfl trivial trivial ?_
          refine G.endOps ?_
          cases hF
          exact G.ret1 Try.results7 (RVar.tmp 2 _) ⟨rfl, trivial⟩ trivial
        · refine G.cond rfl (fun hx => by rw [hc28] at hx; cases hx) (fun _ => ?_)
          refine G.skip ?_
          refine G.seq ?_
          refine G.region ?_
          refine G.op1 (op_move (Ev.t 10 (.g (.d (.sl 6 (List.map encApi_Version r24.1))))) rfl) rfl ⟨rfl, trivial⟩ trivial ?_
          refine G.op1 (op_assign (Ev.t 49 (.g (.d (.sl 6 (List.map encApi_Version r24.1))))) rfl) rfl ⟨rfl, trivial⟩ trivial ?_
          refine G.endOps ?_
          refine G.seq ?_
          refine G.region ?_
          refine G.op1 (op_move (Ev.t 0 (.g (.d (.sl 2 (List.map encApi_Stamp l_0))))) rfl) rfl ⟨rfl, trivial⟩ trivial ?_
          refine G.op1 (op_move (Ev.t 7 (bI .i64 y2)) rfl) rfl ⟨rfl, trivial⟩ trivial ?_
          refine G.op1 (op_sub (Ev.t 51 (bI .i64 y2)) (Ev.c _ rfl) rfl) rfl ⟨rfl, trivial⟩ trivial ?_
          refine G.op1 (op_move (Ev.t 8 (bI .i64 v18.2.2.1)) rfl) rfl ⟨rfl, trivial⟩ trivial ?_
          refine G.op1 (op_sub (Ev.t 52 (bI .i64 (IntKind.wrap .i64 (y2 - 1)))) (Ev.t 53 (bI .i64 v18.2.2.1)) rfl) rfl ⟨rfl, rfl, trivial⟩ trivial ?_
          obtain ⟨x29, hx29, hF⟩ := bindS hF
          refine G.op1 (op_index (cs := [.v (.int .i64 x29.N), .v (.int .i64 x29.Site)]) Try.underlying30 ti25 (idx_ok hx29).1 (idx_get hx29 encApi_Stamp) (Ev.t 50 (.g (.d (.sl 2 (List.map encApi_Stamp l_0))))) (Ev.t 54 (bI .i64 (IntKind.wrap .i64 ((IntKind.wrap .i64 (y2 - 1)) - v18.2.2.1)))) rfl) rfl ⟨rfl, rfl, trivial⟩ trivial ?_
          refine G.op1 (op_loadAE (ds := [.v (.int .i64 x29.N), .v (.int .i64 x29.Site)]) Try.underlying25 rfl ti25 rfl (Ev.t 55 (.ep [.v (.int .i64 x29.N), .v (.int .i64 x29.Site)])) rfl) rfl ⟨rfl, trivial⟩ trivial ?_
          refine G.op1 (op_build (zs := [.v (.string ByteArray.empty), .v (.string ByteArray.empty), .v (.bool false), .v (.int .i64 0), .v (.int .i64 0), .sl 3 (List.map encApi_Dep ([] : (List Api_Dep)))]) (ds := [.v (.string (ByteArray.mk #[97])), .v (.string ByteArray.empty), .v (.bool false), .v (.int .i64 x29.N), .v (.int .i64 x29.Site), .sl 3 (List.map encApi_Dep ([] : (List Api_Dep)))]) Try.underlying28 ti28 (pl28 _ Try.underlying28) ⟨.v _ rfl, .v _ rfl, .v _ rfl, .v _ rfl, .v _ rfl, .n 3, trivial⟩ (EvP.cons (Ev.c _ rfl) (EvP.cons (Ev.t 56 (.g (.agg [.v (.int .i64 x29.N), .v (.int .i64 x29.Site)]))) EvP.nil)) rfl rfl) rfl ⟨rfl, trivial⟩ trivial ?_
          refine G.op2 (op_alloc (k := 1013) (cs := [bS ByteArray.empty, bS ByteArray.empty, bB false, bI .i64 0, bI .i64 0, .g (.d (.sl 3 (List.map encApi_Dep ([] : (List Api_Dep)))))]) ti28 ⟨.v _ rfl, .v _ rfl, .v _ rfl, .v _ rfl, .v _ rfl, .n 3, trivial⟩ rfl) rfl trivial ⟨rfl, trivial⟩ ?_
          refine G.op3 (op_storeA (cs' := [bS (ByteArray.mk #[97]), bS ByteArray.empty, bB false, bI .i64 x29.N, bI .i64 x29.Site, .g (.d (.sl 3 (List.map encApi_Dep ([] : (List Api_Dep)))))]) ti28 rfl rfl (Ev.t 13 (.ptr 1013 0)) (Ev.t 57 (.g (.agg [.v (.string (ByteArray.mk #[97])), .v (.string ByteArray.empty), .v (.bool false), .v (.int .i64 x29.N), .v (.int .i64 x29.Site), .sl 3 (List.map encApi_Dep ([] : (List Api_Dep)))])))) rfl ⟨rfl, rfl, trivial⟩ ⟨rfl, trivial⟩ ?_
          refine G.endOps ?_
          refine G.seq ?_
          refine G.region ?_
          refine G.op1 (op_move (Ev.t 5 (.g (.d (.sl 6 (List.map encApi_Version v18.2.1))))) rfl) rfl ⟨rfl, trivial⟩ trivial ?_
          refine G.op1 (op_loadAP (ds := [.v (.string (ByteArray.mk #[97])), .v (.string ByteArray.empty), .v (.bool false), .v (.int .i64 x29.N), .v (.int .i64 x29.Site), .sl 3 (List.map encApi_Dep ([] : (List Api_Dep)))]) Try.underlying28 rfl ti28 rfl (Ev.t 13 (.ptr 1013 0)) rfl) rfl ⟨rfl, trivial⟩ ⟨rfl, trivial⟩ ?_
          obtain ⟨r30, hr30, hF⟩ := bindS hF
          refine G.op1 (op_call (sv := .tup [.g (.d (.sl 6 (List.map encApi_Version r30.1))), bB r30.2]) cf19 (ct_chain_Put v18.2.1 (Api_Version.mk (ByteArray.mk #[97]) ByteArray.empty false x29 ([] : (List Api_Dep))) r30 hr30) rfl (EvL.cons (Ev.t 59 (.g (.d (.sl 6 (List.map encApi_Version v18.2.1))))) (EvL.cons (Ev.t 60 (.g (.agg [.v (.string (ByteArray.mk #[97])), .v (.string ByteArray.empty), .v (.bool false), .v (.int .i64 x29.N), .v (.int .i64 x29.Site), .sl 3 (List.map encApi_Dep ([] : (List Api_Dep)))]))) EvL.nil)) rfl) rfl ⟨rfl, rfl, trivial⟩ trivial ?_
          refine G.op1 (op_moveS (t := 61) (sv := .tup [.g (.d (.sl 6 (List.map encApi_Version r30.1))), bB r30.2]) rfl) rfl ⟨rfl, trivial⟩ trivial ?_
          refine G.op1 (op_extract (l := [.g (.d (.sl 6 (List.map encApi_Version r30.1))), bB r30.2]) (c := .g (.d (.sl 6 (List.map encApi_Version r30.1)))) rfl rfl) rfl ⟨rfl, trivial⟩ trivial ?_
          refine G.op1 (op_extract (l := [.g (.d (.sl 6 (List.map encApi_Version r30.1))), bB r30.2]) (c := bB r30.2) rfl rfl) rfl ⟨rfl, trivial⟩ trivial ?_
          refine G.op1 (op_assign (Ev.t 62 (.g (.d (.sl 6 (List.map encApi_Version r30.1))))) rfl) rfl ⟨rfl, trivial⟩ trivial ?_
          refine G.endOps ?_
          refine G.seq ?_
          refine G.joinC (T := Bool) (fun y31 => ⟨[(0, .one (.g (.d (.sl 2 (List.map encApi_Stamp l_0))))), (3, .one (bB r1)), (4, .one (.g (.d (.sl 6 (List.map encApi_Version r24.1))))), (5, .one (.g (.d (.sl 6 (List.map encApi_Version r30.1))))), (6, .one (.ptr 1006 0)), (7, .one (bI .i64 y2)), (8, .one (bI .i64 v18.2.2.1)), (72, .one (bB y31))], [(1006, some (.blk 25 [bI .i64 v18.2.2.2.1, bI .i64 v18.2.2.2.2]))]⟩) (fun y31 => law12_ChainOrder_k8 l_0 again20 v18 r24 r30 y31 = some r) (fun y31 hF => ?_) (fun J34 => ?_)
          · unfold law12_ChainOrder_k8 at hF
            refine ifS hF (fun hc32 hF => ?_) (fun hc32 hF => ?_)
            · refine G.cond rfl (fun _ => ?_) (fun hx => by rw [hc32] at hx; cases hx)
              refine G.region ?_
              refine G.op1 (op_move (Ev.t 0 (.g (.d (.sl 2 (List.map encApi_Stamp l_0))))) rfl) rfl ⟨rfl, trivial⟩ trivial ?_
              refine G.op1 (op_move (Ev.t 8 (bI .i64 v18.2.2.1)) rfl) rfl ⟨rfl, trivial⟩ trivial ?_
              obtain ⟨x33, hx33, hF⟩ := bindS hF
              refine G.op1 (op_index (cs := [.v (.int .i64 x33.N), .v (.int .i64 x33.Site)]) Try.underlying30 ti25 (idx_ok hx33).1 (idx_get hx33 encApi_Stamp) (Ev.t 73 (.g (.d (.sl 2 (List.map encApi_Stamp l_0))))) (Ev.t 74 (bI .i64 v18.2.2.1)) rfl) rfl ⟨rfl, rfl, trivial⟩ trivial ?_
              refine G.op1 (op_loadAE (ds := [.v (.int .i64 x33.N), .v (.int .i64 x33.Site)]) Try.underlying25 rfl ti25 rfl (Ev.t 75 (.ep [.v (.int .i64 x33.N), .v (.int .i64 x33.Site)])) rfl) rfl ⟨rfl, trivial⟩ trivial ?_
              refine G.op3 (op_storeA (cs' := [bI .i64 x33.N, bI .i64 x33.Site]) ti25 rfl rfl (Ev.t 6 (.ptr 1006 0)) (Ev.t 76 (.g (.agg [.v (.int .i64 x33.N), .v (.int .i64 x33.Site)])))) rfl ⟨rfl, rfl, trivial⟩ ⟨rfl, trivial⟩ ?_
              refine G.endOps ?_
              refine G.endBlock ?_
              refine G.region ?_
              refine G.op1 (op_move (Ev.t 8 (bI .i64 v18.2.2.1)) rfl) rfl ⟨rfl, trivial⟩ trivial ?_
              refine G.op1 (op_add (Ev.t 26 (bI .i64 v18.2.2.1)) (Ev.c _ rfl) rfl) rfl ⟨rfl, trivial⟩ trivial ?_
              refine G.op1 (op_assign (Ev.t 27 (bI .i64 (IntKind.wrap .i64 (v18.2.2.1 + 1)))) rfl) rfl ⟨rfl, trivial⟩ trivial ?_
              refine G.endOps ?_
              exact G.arr (J19 (r24.1, r30.1, IntKind.wrap .i64 (v18.2.2.1 + 1), x33.N, x33.Site) hF) ⟨rfl, rfl, rfl, rfl, rfl, rfl, rfl, trivial⟩ ⟨rfl, trivial⟩ rfl
            · refine G.cond rfl (fun hx => by rw [hc32] at hx; cases hx) (fun _ => ?_)
              refine G.skip ?_
              refine G.endBlock ?_
              refine G.region ?_
              refine G.op1 (op_move (Ev.t 8 (bI .i64 v18.2.2.1)) rfl) rfl ⟨rfl, trivial⟩ trivial ?_
              refine G.op1 (op_add (Ev.t 26 (bI .i64 v18.2.2.1)) (Ev.c _ rfl) rfl) rfl ⟨rfl, trivial⟩ trivial ?_
              refine G.op1 (op_assign (Ev.t 27 (bI .i64 (IntKind.wrap .i64 (v18.2.2.1 + 1)))) rfl) rfl ⟨rfl, trivial⟩ trivial ?_
              refine G.endOps ?_
              exact G.arr (J19 (r24.1, r30.1, IntKind.wrap .i64 (v18.2.2.1 + 1), v18.2.2.2.1, v18.2.2.2.2) hF) ⟨rfl, rfl, rfl, rfl, rfl, rfl, rfl, trivial⟩ ⟨rfl, trivial⟩ rfl
          refine ifS hF (fun hc35 hF => ?_) (fun hc35 hF => ?_)
          · refine G.known (t := 12) (c := true) hc35 rfl ?_
            obtain ⟨x36, hx36, hF⟩ := bindS hF
            obtain ⟨r37, hr37, hF⟩ := bindS hF
            refine G.drawn (effs := [⟨[(12, .one (bB true))], [], [(64, .one (bB true))], []⟩, ⟨[(64, .one (bB true))], [], [(65, .one (bB true))], []⟩, ⟨[(65, .one (bB true)), (6, .one (.ptr 1006 0))], [(1006, some (.blk 25 [bI .i64 v18.2.2.2.1, bI .i64 v18.2.2.2.2]))], [(66, .one (.g (.agg [.v (.int .i64 v18.2.2.2.1), .v (.int .i64 v18.2.2.2.2)])))], []⟩, ⟨[(65, .one (bB true)), (0, .one (.g (.d (.sl 2 (List.map encApi_Stamp l_0)))))], [], [(67, .one (.g (.d (.sl 2 (List.map encApi_Stamp l_0)))))], []⟩, ⟨[(65, .one (bB true)), (8, .one (bI .i64 v18.2.2.1))], [], [(68, .one (bI .i64 v18.2.2.1))], []⟩, ⟨[(65, .one (bB true)), (67, .one (.g (.d (.sl 2 (List.map encApi_Stamp l_0))))), (68, .one (bI .i64 v18.2.2.1))], [], [(69, .one (.ep [.v (.int .i64 x36.N), .v (.int .i64 x36.Site)]))], []⟩, ⟨[(65, .one (bB true)), (69, .one (.ep [.v (.int .i64 x36.N), .v (.int .i64 x36.Site)]))], [], [(70, .one (.g (.agg [.v (.int .i64 x36.N), .v (.int .i64 x36.Site)])))], []⟩, ⟨[(65, .one (bB true)), (66, .one (.g (.agg [.v (.int .i64 v18.2.2.2.1), .v (.int .i64 v18.2.2.2.2)]))), (70, .one (.g (.agg [.v (.int .i64 x36.N), .v (.int .i64 x36.Site)])))], [], [(71, .one (bB r37))], []⟩, ⟨[(65, .one (bB true)), (71, .one (bB r37))], [], [(72, .one (bB r37))], []⟩]) (deps := [[], [0], [0, 1], [0, 1], [0, 1], [0, 1, 3, 4], [0, 1, 3, 4, 5], [0, 1, 2, 3, 4, 5, 6], [0, 1, 2, 3, 4, 5, 6, 7]]) (sl' := [(0, .one (.g (.d (.sl 2 (List.map encApi_Stamp l_0))))), (3, .one (bB r1)), (4, .one (.g (.d (.sl 6 (List.map encApi_Version r24.1))))), (5, .one (.g (.d (.sl 6 (List.map encApi_Version r30.1))))), (6, .one (.ptr 1006 0)), (7, .one (bI .i64 y2)), (8, .one (bI .i64 v18.2.2.1)), (72, .one (bB r37))]) (hp' := [(1006, some (.blk 25 [bI .i64 v18.2.2.2.1, bI .i64 v18.2.2.2.2]))]) follows rfl rfl rfl ⟨⟨rfl, trivial⟩, trivial, ⟨rfl, trivial⟩, trivial, ⟨rfl, rfl, trivial⟩, ⟨⟨rfl, rfl⟩, trivial⟩, ⟨rfl, rfl, trivial⟩, trivial, ⟨rfl, rfl, trivial⟩, trivial, ⟨rfl, rfl, rfl, trivial⟩, trivial, ⟨rfl, rfl, trivial⟩, trivial, ⟨rfl, rfl, rfl, trivial⟩, trivial, ⟨rfl, rfl, trivial⟩, trivial, trivial⟩ ⟨OpW.plain (op_move (Ev.t 12 (bB true)) rfl) rfl rfl, OpW.plain (op_move (Ev.t 64 (bB true)) rfl) rfl rfl, OpW.yes (op_loadAP (ds := [.v (.int .i64 v18.2.2.2.1), .v (.int .i64 v18.2.2.2.2)]) Try.underlying25 rfl ti25 rfl (Ev.t 6 (.ptr 1006 0)) rfl) rfl rfl rfl, OpW.yes (op_move (Ev.t 0 (.g (.d (.sl 2 (List.map encApi_Stamp l_0))))) rfl) rfl rfl rfl, OpW.yes (op_move (Ev.t 8 (bI .i64 v18.2.2.1)) rfl) rfl rfl rfl, OpW.yes (op_index (cs := [.v (.int .i64 x36.N), .v (.int .i64 x36.Site)]) Try.underlying30 ti25 (idx_ok hx36).1 (idx_get hx36 encApi_Stamp) (Ev.t 67 (.g (.d (.sl 2 (List.map encApi_Stamp l_0))))) (Ev.t 68 (bI .i64 v18.2.2.1)) rfl) rfl rfl rfl, OpW.yes (op_loadAE (ds := [.v (.int .i64 x36.N), .v (.int .i64 x36.Site)]) Try.underlying25 rfl ti25 rfl (Ev.t 69 (.ep [.v (.int .i64 x36.N), .v (.int .i64 x36.Site)])) rfl) rfl rfl rfl, OpW.yes (op_callQ (sv := .one (bB r37)) cf16 (ct_ref03_Less (Api_Stamp.mk v18.2.2.2.1 v18.2.2.2.2) x36 r37 hr37) rfl rfl (EvQL.cons (EvQ.g (Ev.t 66 (.g (.agg [.v (.int .i64 v18.2.2.2.1), .v (.int .i64 v18.2.2.2.2)])))) (EvQL.cons (EvQ.g (Ev.t 70 (.g (.agg [.v (.int .i64 x36.N), .v (.int .i64 x36.Site)])))) EvQL.nil)) rfl) rfl rfl rfl, OpW.plain (op_pickT (Ev.t 65 (bB true)) (Ev.t 71 (bB r37)) rfl) rfl rfl, trivial⟩ ⟨rfl, rfl, rfl, rfl, rfl, rfl, rfl, rfl, trivial⟩ ⟨rfl, trivial⟩ rfl ?_
            exact G.arr (J34 r37 hF) ⟨rfl, rfl, rfl, rfl, rfl, rfl, rfl, rfl, trivial⟩ ⟨rfl, trivial⟩ rfl
          · refine G.known (t := 12) (c := false) hc35 rfl ?_
            refine G.drawn (effs := [⟨[(12, .one (bB false))], [], [(64, .one (bB false))], []⟩, ⟨[(64, .one (bB false))], [], [(65, .one (bB false))], []⟩, ⟨[(65, .one (bB false))], [], [(66, .one (.x Go.undef))], []⟩, ⟨[(65, .one (bB false))], [], [(67, .one (.x Go.undef))], []⟩, ⟨[(65, .one (bB false))], [], [(68, .one (.x Go.undef))], []⟩, ⟨[(65, .one (bB false))], [], [(69, .one (.x Go.undef))], []⟩, ⟨[(65, .one (bB false))], [], [(70, .one (.x Go.undef))], []⟩, ⟨[(65, .one (bB false))], [], [(71, .one (.x Go.undef))], []⟩, ⟨[(65, .one (bB false))], [], [(72, .one (bB false))], []⟩]) (deps := [[], [0], [0, 1], [0, 1], [0, 1], [0, 1, 3, 4], [0, 1, 3, 4, 5], [0, 1, 2, 3, 4, 5, 6], [0, 1, 2, 3, 4, 5, 6, 7]]) (sl' := [(0, .one (.g (.d (.sl 2 (List.map encApi_Stamp l_0))))), (3, .one (bB r1)), (4, .one (.g (.d (.sl 6 (List.map encApi_Version r24.1))))), (5, .one (.g (.d (.sl 6 (List.map encApi_Version r30.1))))), (6, .one (.ptr 1006 0)), (7, .one (bI .i64 y2)), (8, .one (bI .i64 v18.2.2.1)), (72, .one (bB false))]) (hp' := [(1006, some (.blk 25 [bI .i64 v18.2.2.2.1, bI .i64 v18.2.2.2.2]))]) follows rfl rfl rfl ⟨⟨rfl, trivial⟩, trivial, ⟨rfl, trivial⟩, trivial, ⟨rfl, trivial⟩, trivial, ⟨rfl, trivial⟩, trivial, ⟨rfl, trivial⟩, trivial, ⟨rfl, trivial⟩, trivial, ⟨rfl, trivial⟩, trivial, ⟨rfl, trivial⟩, trivial, ⟨rfl, trivial⟩, trivial, trivial⟩ ⟨OpW.plain (op_move (Ev.t 12 (bB false)) rfl) rfl rfl, OpW.plain (op_move (Ev.t 64 (bB false)) rfl) rfl rfl, OpW.no rfl rfl rfl rfl rfl, OpW.no rfl rfl rfl rfl rfl, OpW.no rfl rfl rfl rfl rfl, OpW.no rfl rfl rfl rfl rfl, OpW.no rfl rfl rfl rfl rfl, OpW.no rfl rfl rfl rfl rfl, OpW.plain (op_pickF (Ev.t 65 (bB false)) (Ev.c _ rfl) rfl) rfl rfl, trivial⟩ ⟨rfl, rfl, rfl, rfl, rfl, rfl, rfl, rfl, trivial⟩ ⟨rfl, trivial⟩ rfl ?_
            exact G.arr (J34 false hF) ⟨rfl, rfl, rfl, rfl, rfl, rfl, rfl, rfl, trivial⟩ ⟨rfl, trivial⟩ rfl
      refine G.region ?_
      refine G.op1 (op_move (Ev.t 11 (bB r24.2)) rfl) rfl ⟨rfl, trivial⟩ trivial ?_
      refine G.op1 (op_move (Ev.t 44 (bB r24.2)) rfl) rfl ⟨rfl, trivial⟩ trivial ?_
      refine ifS hF (fun hc39 hF => ?_) (fun hc39 hF => ?_)
      · refine G.known (t := 45) hc39 rfl ?_
        refine G.opG1 (op_move (Ev.t 12 (bB r26)) rfl) rfl rfl rfl ⟨rfl, trivial⟩ trivial ?_
        refine G.opG1 (op_not (Ev.t 46 (bB r26)) rfl) rfl rfl rfl ⟨rfl, trivial⟩ trivial ?_
        refine G.op1 (op_pickT (Ev.t 45 (bB true)) (Ev.t 47 (bB (!r26))) rfl) rfl ⟨rfl, rfl, trivial⟩ trivial ?_
        refine G.endOps ?_
        exact G.arr (J38 (!r26) hF) ⟨rfl, rfl, rfl, rfl, rfl, rfl, rfl, rfl, rfl, trivial⟩ ⟨rfl, trivial⟩ rfl
      · refine G.known (t := 45) hc39 rfl ?_
        refine G.opN1 rfl rfl rfl rfl rfl ?_
        refine G.opN1 rfl rfl rfl rfl rfl ?_
        refine G.op1 (op_pickF (Ev.t 45 (bB false)) (Ev.c _ rfl) rfl) rfl ⟨rfl, trivial⟩ trivial ?_
        refine G.endOps ?_
        exact G.arr (J38 false hF) ⟨rfl, rfl, rfl, rfl, rfl, rfl, rfl, rfl, rfl, trivial⟩ ⟨rfl, trivial⟩ rfl
    · refine G.cond rfl (fun hx => by rw [hc22] at hx; cases hx) (fun _ => ?_)
      refine G.exit ?_
      refine GX.c ?_
      refine GX.q ?_
      refine GX.bYes ?_
      exact G.arr (J17 (v18.1, v18.2.1, v18.2.2.2.1, v18.2.2.2.2) hF) ⟨rfl, rfl, rfl, rfl, trivial⟩ ⟨rfl, trivial⟩ rfl
  refine ifS hF (fun hc41 hF => ?_) (fun hc41 hF => ?_)
  · refine G.cond rfl (fun _ => ?_) (fun hx => by rw [hc41] at hx; cases hx)
    refine G.region ?_
    refine G.op1 (op_assign (Ev.c _ rfl) rfl) rfl trivial trivial ?_
    refine G.endOps ?_
    exact G.arr (J40 10 hF) ⟨rfl, rfl, rfl, rfl, rfl, rfl, trivial⟩ ⟨rfl, trivial⟩ rfl
  · refine G.cond rfl (fun hx => by rw [hc41] at hx; cases hx) (fun _ => ?_)
    refine G.skip ?_
    exact G.arr (J40 (l_0.length : Int) hF) ⟨rfl, rfl, rfl, rfl, rfl, rfl, trivial⟩ ⟨rfl, trivial⟩ rfl


end Go.Ark
