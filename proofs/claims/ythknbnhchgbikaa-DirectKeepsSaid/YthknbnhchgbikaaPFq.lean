/- Words for this claim: an evaluator of the program's functions, and what they come to. -/
import Derived.Test.YthknbnhchgbikaaPFp
import Derived.Test.YthknbnhchgbikaaPFk
set_option linter.all false
namespace Go.Ab
attribute [local simp] runFn args0 e_skip e_reg regC_some e_seq seqC_n seqC_e seqC_r e_cond condC_t condC_f e_block e_loop e_exit e_ret nextC_n nextC_e nextC_r nextK_n nextK_e nextK_r evReg evOps evOp wants fp St.ev St.get St.set St.sets St.put St.apply St.pre preK inB lk up del hits V.cells V.cellsG allPlain Cell.plain pure1 keysOf okUn noK Ev.apart meets mkV splice fillC binC unC mmC eqCs eqC resVs resV one export1 V.keys V.keys1 outKeys valsKeys cellsKeys Cell.keys Blk.keys elsKeys fpCall fpCallG noTup reach getAll outW newW names srcs capsOf onesOf slB rowsOf V.ren V.ren1 Cell.ren Loc.ren locsRen Blk.ren inR outR place nm St.sweep swept St.kill killR lmap delAll St.trim reachL expR ownGet b2i_le wrap_u64 wrap_i64 bits_u64 bits_i64 or_u64 and_u64 Int.fdiv_eq_ediv_of_nonneg word mmC hits
def rK (g eps h : Int) (a b : Bd) : Int × Int := (rpX g eps h a b.m b.x b.y, rpY g eps h a b.m b.x b.y)
theorem pulledS_r (g eps h : Int) (a b : Bd) (p q : Mo) :
    (pulledS g eps h a b p q).e = (if rpE g eps h a b.m b.x b.y ≠ 0 then rpE g eps h a b.m b.x b.y else if bothE (p.1 + rpX g eps h a b.m b.x b.y) (p.2 + rpY g eps h a b.m b.x b.y) ≠ 0 then bothE (p.1 + rpX g eps h a b.m b.x b.y) (p.2 + rpY g eps h a b.m b.x b.y) else bothE (q.1 - rpX g eps h a b.m b.x b.y) (q.2 - rpY g eps h a b.m b.x b.y)) ∧
    ((pulledS g eps h a b p q).e = 0 → (pulledS g eps h a b p q).p = (both1 (p.1 + rpX g eps h a b.m b.x b.y) (p.2 + rpY g eps h a b.m b.x b.y), both1 (p.2 + rpY g eps h a b.m b.x b.y) (p.1 + rpX g eps h a b.m b.x b.y)) ∧
      (pulledS g eps h a b p q).q = (both1 (q.1 - rpX g eps h a b.m b.x b.y) (q.2 - rpY g eps h a b.m b.x b.y), both1 (q.2 - rpY g eps h a b.m b.x b.y) (q.1 - rpX g eps h a b.m b.x b.y))) := by
  unfold pulledS rpE rpX rpY
  by_cases c1 : bothE (b.x - a.x) (b.y - a.y) = 0
  · simp only [c1, ne_eq, not_true_eq_false, if_false]
    by_cases c2 : pullE g a.m b.m (both1 (b.x - a.x) (b.y - a.y)) (both1 (b.y - a.y) (b.x - a.x)) eps h = 0
    · simp only [c2, not_true_eq_false, if_false]
      split
      · rename_i c3
        exact ⟨rfl, fun h0 => absurd h0 c3⟩
      · exact ⟨rfl, fun _ => ⟨rfl, rfl⟩⟩
    · simp only [c2, not_false_eq_true, if_true]
      exact ⟨trivial, fun h0 => (h0 : False).elim⟩
  · simp only [c1, ne_eq, not_false_eq_true, if_true]
    exact ⟨trivial, fun h0 => (h0 : False).elim⟩
theorem rpX_may (g eps h : Int) (a : Bd) (m x y : Int) : mayI (rpX g eps h a m x y) := by
  have := rpX_ok g eps h a m x y
  unfold okM at this; rw [fv_dm] at this; unfold mayI; omega
theorem rpY_may (g eps h : Int) (a : Bd) (m x y : Int) : mayI (rpY g eps h a m x y) := by
  have := rpY_ok g eps h a m x y
  unfold okM at this; rw [fv_dm] at this; unfold mayI; omega
theorem rin_loop (D : Nat) (w : Wn) (bs : List Bd) (ats : List (List Cell)) (m i : Nat) (h : Int) (hm : bs.length ≤ 1000) (hb : ∀ b ∈ bs, b.ok) (kg : mayI w.g) (ke : mayI w.eps) (kh : mayI h) (hi : i < bs.length) :
    ∀ (n j : Nat) (ps : List Mo) (cr : List Nat) (fuel : Nat), (cr = [13000, 4, 3, 2] ∨ cr = [10, 9, 8, 13000, 4, 3, 2]) → j + n = bs.length → i < j → ps.length = bs.length → (∀ x ∈ ps, x.ok) → n < fuel →
      ((kIn w.g w.eps h bs i n j ps).1 = 0 → (kIn w.g w.eps h bs i n j ps).2.length = bs.length ∧ (∀ x ∈ (kIn w.g w.eps h bs i n j ps).2, x.ok) ∧ ∃ cr', (cr' = [13000, 4, 3, 2] ∨ cr' = [10, 9, 8, 13000, 4, 3, 2]) ∧
        loopC (evFun T (D+11)) ir27_l0 ir27_t0 ir27_x0 fuel (rS1 w bs.length m h ((oA bs ats).map some) i j (ps.map Mo.row) cr) =
          some (.exit 2, rX bs.length bs.length (rS1 w bs.length m h ((oA bs ats).map some) i bs.length ((kIn w.g w.eps h bs i n j ps).2.map Mo.row) cr'))) ∧
      ((kIn w.g w.eps h bs i n j ps).1 ≠ 0 → RRet ((oA bs ats).map some) (kIn w.g w.eps h bs i n j ps).1 (loopC (evFun T (D+11)) ir27_l0 ir27_t0 ir27_x0 fuel (rS1 w bs.length m h ((oA bs ats).map some) i j (ps.map Mo.row) cr))) := by
  intro n
  induction n with
  | zero =>
    intro j ps cr fuel hcr hjn hij hl hok hf
    obtain ⟨f, rfl⟩ : ∃ f, fuel = f + 1 := ⟨fuel - 1, by omega⟩
    have : j = bs.length := by omega
    subst this
    refine ⟨fun _ => ⟨hl, hok, cr, hcr, ?_⟩, fun h0 => absurd rfl h0⟩
    rw [loopC_K, rin_exit]
    rfl
  | succ n ih =>
    intro j ps cr fuel hcr hjn hij hl hok hf
    obtain ⟨f, rfl⟩ : ∃ f, fuel = f + 1 := ⟨fuel - 1, by omega⟩
    have hj : j < bs.length := by omega
    have hbi := getD_some (d := b0) hi
    have hbj := getD_some (d := b0) hj
    have hpi := getD_some (l := ps) (d := (0, 0)) (show i < ps.length by omega)
    have hpj := getD_some (l := ps) (d := (0, 0)) (show j < ps.length by omega)
    have oi := hb _ (List.mem_of_getElem? hbi)
    have oj := hb _ (List.mem_of_getElem? hbj)
    have op := hok _ (List.mem_of_getElem? hpi)
    have oq := hok _ (List.mem_of_getElem? hpj)
    have hc := R_pulledA (D+2) w bs ats m i _ (bs.getD j b0).m (bs.getD j b0).x (bs.getD j b0).y h hbi oi oj.1 oj.2.1 oj.2.2.1 kg ke kh
    have kX := rpX_may w.g w.eps h (bs.getD i b0) (bs.getD j b0).m (bs.getD j b0).x (bs.getD j b0).y
    have kY := rpY_may w.g w.eps h (bs.getD i b0) (bs.getD j b0).m (bs.getD j b0).x (bs.getD j b0).y
    have ha := R_vadd (D+5) (okM_may op.1) (okM_may op.2) (okM_may kX) (okM_may kY)
    have hs := R_vsub (D+4) (okM_may oq.1) (okM_may oq.2) (okM_may kX) (okM_may kY)
    simp only [fv_dm] at ha hs
    have hk : kIn w.g w.eps h bs i (n + 1) j ps = if (pulledS w.g w.eps h (bs.getD i b0) (bs.getD j b0) (ps.getD i (0, 0)) (ps.getD j (0, 0))).e = 0 then kIn w.g w.eps h bs i n (j + 1) ((ps.set i (pulledS w.g w.eps h (bs.getD i b0) (bs.getD j b0) (ps.getD i (0, 0)) (ps.getD j (0, 0))).p).set j (pulledS w.g w.eps h (bs.getD i b0) (bs.getD j b0) (ps.getD i (0, 0)) (ps.getD j (0, 0))).q) else ((pulledS w.g w.eps h (bs.getD i b0) (bs.getD j b0) (ps.getD i (0, 0)) (ps.getD j (0, 0))).e, ps) := rfl
    have hpk := pulledS_ok w.g w.eps h (bs.getD i b0) (bs.getD j b0) (ps.getD i (0, 0)) (ps.getD j (0, 0))
    have hpr := pulledS_r w.g w.eps h (bs.getD i b0) (bs.getD j b0) (ps.getD i (0, 0)) (ps.getD j (0, 0))
    rw [hk]
    generalize pulledS w.g w.eps h (bs.getD i b0) (bs.getD j b0) (ps.getD i (0, 0)) (ps.getD j (0, 0)) = r at *
    rw [loopC_K]
    clear hk kX kY oi oj
    generalize rpE w.g w.eps h (bs.getD i b0) (bs.getD j b0).m (bs.getD j b0).x (bs.getD j b0).y = E at *
    generalize rpX w.g w.eps h (bs.getD i b0) (bs.getD j b0).m (bs.getD j b0).x (bs.getD j b0).y = X at *
    generalize rpY w.g w.eps h (bs.getD i b0) (bs.getD j b0).m (bs.getD j b0).x (bs.getD j b0).y = Y at *
    obtain ⟨hE, hpr⟩ := hpr
    by_cases c1 : E = 0
    · subst c1
      rw [if_neg (by simp)] at hE
      by_cases c2 : bothE ((ps.getD i (0, 0)).1 + X) ((ps.getD i (0, 0)).2 + Y) = 0
      · rw [if_neg (by simpa using c2)] at hE
        rw [c2] at ha
        by_cases c3 : bothE ((ps.getD j (0, 0)).1 - X) ((ps.getD j (0, 0)).2 - Y) = 0
        · have he : r.e = 0 := by rw [hE]; exact c3
          rw [c3] at hs
          rw [if_pos he]
          obtain ⟨e1, e2⟩ := hpr he
          rw [rin_ok D w bs ats m i j h ps cr hcr _ _ _ X Y _ _ _ _ hl hm hij hbj hpi hpj hc ha hs, ← e1, ← e2]
          exact ih (j + 1) _ _ f (.inr rfl) (by omega) (by omega) (by simp [hl]) (ok_set (ok_set hok (hpk he).1) (hpk he).2) (by omega)
        · have he : r.e ≠ 0 := by rw [hE]; exact c3
          rw [if_neg he]
          refine ⟨fun h0 => absurd h0 he, fun _ => ?_⟩
          rw [hE]
          exact rin_e3 D w bs ats m i j h ps cr hcr _ _ _ X Y _ _ _ _ _ hl hm hij hbj hpi hpj c3 hc ha hs _
      · rw [if_pos c2] at hE
        have he : r.e ≠ 0 := by rw [hE]; exact c2
        rw [if_neg he]
        refine ⟨fun h0 => absurd h0 he, fun _ => ?_⟩
        rw [hE]
        exact rin_e2 D w bs ats m i j h ps cr hcr _ _ _ X Y _ _ _ hl hm hij hbj hpi hpj c2 hc ha _
    · rw [if_pos c1] at hE
      have he : r.e ≠ 0 := by rw [hE]; exact c1
      rw [if_neg he]
      refine ⟨fun h0 => absurd h0 he, fun _ => ?_⟩
      rw [hE]
      exact rin_e1 D w bs ats m i j h ps cr hcr _ _ _ X Y _ hl hm hij hbj hpi hpj c1 hc _
theorem rout_round (call : CallF) (w : Wn) (n m i : Nat) (h : Int) (ob : List (Option Blk)) (R R' : List (List Cell)) (cr cr' : List Nat) (hcr : cr' = [13000, 4, 3, 2] ∨ cr' = [10, 9, 8, 13000, 4, 3, 2]) (hi : i < n) (hn : n ≤ 1000)
    (hl : loopC call ir27_l0 ir27_t0 ir27_x0 18446744073709551616 (rS1 w n m h ob i ((i + 1 : Nat) : Int) R cr) = some (.exit 2, rX n n (rS1 w n m h ob i n R' cr'))) :
    ∀ K, nextK K ir27_t1 ir27_x1 (evCode call ir27_l1 (rS2 w n m h ob i R cr)) = K (rS2 w n m h ob ((i + 1 : Nat) : Int) R' cr') := by
  intro K
  have hi' : (i : Int) < (n : Int) := by omega
  have e1 : ((i : Int) + 1 + 9223372036854775808) % 18446744073709551616 - 9223372036854775808 = (i : Int) + 1 := by omega
  simp only [rS1, rX, St.put, up] at hl
  simp at hl
  simp (maxSteps := 2000000) [rS2, ir27_l1, ir27_t1, ir27_x1, hi', e1, hl]
theorem rout_err (call : CallF) (w : Wn) (n m i : Nat) (h e : Int) (ob : List (Option Blk)) (R : List (List Cell)) (cr : List Nat) (hi : i < n) (hn : n ≤ 1000)
    (hl : RRet ob e (loopC call ir27_l0 ir27_t0 ir27_x0 18446744073709551616 (rS1 w n m h ob i ((i + 1 : Nat) : Int) R cr))) :
    ∀ K, RRet ob e (nextK K ir27_t1 ir27_x1 (evCode call ir27_l1 (rS2 w n m h ob i R cr))) := by
  intro K
  obtain ⟨σ, hl, h4, h5, ho⟩ := hl
  have hi' : (i : Int) < (n : Int) := by omega
  have e1 : ((i : Int) + 1 + 9223372036854775808) % 18446744073709551616 - 9223372036854775808 = (i : Int) + 1 := by omega
  simp only [rS1] at hl
  simp at hl
  refine ⟨σ, ?_, h4, h5, ho⟩
  simp (maxSteps := 2000000) [rS2, ir27_l1, ir27_t1, ir27_x1, hi', e1, hl]
def rXo (n : Nat) (j : Int) (S : St) : St := (((S.put (some 13) (.c (.int .i64 j))).put (some 14) (.c (.slc (.l 13000) 4 0 n))).put (some 15) (.c (.int .i64 n))).put (some 16) (.c (.bool false))
theorem rout_exit (call : CallF) (w : Wn) (n m : Nat) (h : Int) (ob : List (Option Blk)) (R : List (List Cell)) (cr : List Nat) :
    ∀ K, nextK K ir27_t1 ir27_x1 (evCode call ir27_l1 (rS2 w n m h ob n R cr)) = some (.exit 0, rXo n n (rS2 w n m h ob n R cr)) := by
  intro K
  simp [rS2, rXo, ir27_l1, ir27_t1, ir27_x1]
theorem rout_loop (D : Nat) (w : Wn) (bs : List Bd) (ats : List (List Cell)) (m : Nat) (h : Int) (hm : bs.length ≤ 1000) (hb : ∀ b ∈ bs, b.ok) (kg : mayI w.g) (ke : mayI w.eps) (kh : mayI h) :
    ∀ (n i : Nat) (ps : List Mo) (cr : List Nat) (fuel : Nat), (cr = [13000, 4, 3, 2] ∨ cr = [10, 9, 8, 13000, 4, 3, 2]) → i + n = bs.length → ps.length = bs.length → (∀ x ∈ ps, x.ok) → n < fuel →
      ((kOut w.g w.eps h bs n i ps).1 = 0 → (kOut w.g w.eps h bs n i ps).2.length = bs.length ∧ (∀ x ∈ (kOut w.g w.eps h bs n i ps).2, x.ok) ∧ ∃ cr', (cr' = [13000, 4, 3, 2] ∨ cr' = [10, 9, 8, 13000, 4, 3, 2]) ∧
        loopC (evFun T (D+11)) ir27_l1 ir27_t1 ir27_x1 fuel (rS2 w bs.length m h ((oA bs ats).map some) i (ps.map Mo.row) cr) =
          some (.exit 0, rXo bs.length bs.length (rS2 w bs.length m h ((oA bs ats).map some) bs.length ((kOut w.g w.eps h bs n i ps).2.map Mo.row) cr'))) ∧
      ((kOut w.g w.eps h bs n i ps).1 ≠ 0 → RRet ((oA bs ats).map some) (kOut w.g w.eps h bs n i ps).1 (loopC (evFun T (D+11)) ir27_l1 ir27_t1 ir27_x1 fuel (rS2 w bs.length m h ((oA bs ats).map some) i (ps.map Mo.row) cr))) := by
  intro n
  induction n with
  | zero =>
    intro i ps cr fuel hcr hin hl hok hf
    obtain ⟨f, rfl⟩ : ∃ f, fuel = f + 1 := ⟨fuel - 1, by omega⟩
    have : i = bs.length := by omega
    subst this
    refine ⟨fun _ => ⟨hl, hok, cr, hcr, ?_⟩, fun h0 => absurd rfl h0⟩
    rw [loopC_K, rout_exit]
    rfl
  | succ n ih =>
    intro i ps cr fuel hcr hin hl hok hf
    obtain ⟨f, rfl⟩ : ∃ f, fuel = f + 1 := ⟨fuel - 1, by omega⟩
    have hi : i < bs.length := by omega
    have hk : kOut w.g w.eps h bs (n + 1) i ps = if (kIn w.g w.eps h bs i (bs.length - (i + 1)) (i + 1) ps).1 = 0 then kOut w.g w.eps h bs n (i + 1) (kIn w.g w.eps h bs i (bs.length - (i + 1)) (i + 1) ps).2 else kIn w.g w.eps h bs i (bs.length - (i + 1)) (i + 1) ps := rfl
    have hin' := rin_loop D w bs ats m i h hm hb kg ke kh hi (bs.length - (i + 1)) (i + 1) ps cr 18446744073709551616 hcr (by omega) (by omega) hl hok (by omega)
    rw [hk]
    generalize kIn w.g w.eps h bs i (bs.length - (i + 1)) (i + 1) ps = r at *
    rw [loopC_K]
    by_cases he : r.1 = 0
    · rw [if_pos he]
      obtain ⟨q1, q2, cr', q3, q4⟩ := hin'.1 he
      rw [rout_round (evFun T (D+11)) w bs.length m i h _ _ _ cr cr' q3 hi hm q4]
      exact ih (i + 1) r.2 cr' f q3 (by omega) q1 q2 (by omega)
    · rw [if_neg he]
      refine ⟨fun h0 => absurd h0 he, fun _ => ?_⟩
      exact rout_err (evFun T (D+11)) w bs.length m i h r.1 _ _ cr hi hm (hin'.2 he) _
theorem R_directA_ok (D : Nat) (w : Wn) (bs : List Bd) (ats : List (List Cell)) (m : Nat) (h : Int) (hn : bs ≠ []) (hm : bs.length ≤ 1000) (hb : ∀ b ∈ bs, b.ok) (kg : mayI w.g) (ke : mayI w.eps) (kh : mayI h) (he : (kickS w.g w.eps h bs).1 = 0) :
    evFun T (D+12) 27 [wA w bs.length m, .agg [.int .i64 (h / 18446744073709551616), .int .u64 (h % 18446744073709551616)]] (oA bs ats) =
      some (.agg [.slc (.l 0) 4 0 bs.length, .int .i64 0], (oA bs ats).map some, [⟨28, 4, true, true, (kickS w.g w.eps h bs).2.map Mo.row⟩]) := by
  have hl := E_momenta D w bs ats m hn hm
  obtain ⟨q1, q2, cr', q3, ho⟩ := (rout_loop D w bs ats m h hm hb kg ke kh bs.length 0 (moms bs) [13000, 4, 3, 2] 18446744073709551616 (.inl rfl) (by omega) (moms_len bs) (moms_ok hb) (by omega)).1 he
  rw [show kOut w.g w.eps h bs bs.length 0 (moms bs) = kickS w.g w.eps h bs from rfl] at ho
  generalize (kickS w.g w.eps h bs).2 = ps at *
  generalize moms bs = ps0 at *
  unfold wA at *
  simp only [rS2, rXo, oA, List.map_cons, List.map_nil, Wn.cells, St.put, up] at hl ho
  unfold oA
  simp at hl ho
  clear q1 q2 hb hm hn
  rcases q3 with rfl | rfl
  · rw [ev_fn T27]; (try simp only [Nat.add_assoc, Nat.reduceAdd] at hl ho); obtain ⟨call, hcall⟩ : ∃ call, call = evFun T (D + 11) := ⟨_, rfl⟩; rw [← hcall] at hl ho ⊢; clear hcall; simp (maxSteps := 2000000) [ir27, Wn.cells, hl, ho]
  · rw [ev_fn T27]; (try simp only [Nat.add_assoc, Nat.reduceAdd] at hl ho); obtain ⟨call, hcall⟩ : ∃ call, call = evFun T (D + 11) := ⟨_, rfl⟩; rw [← hcall] at hl ho ⊢; clear hcall; simp (maxSteps := 2000000) [ir27, Wn.cells, hl, ho]
theorem R_directA_err (D : Nat) (w : Wn) (bs : List Bd) (ats : List (List Cell)) (m : Nat) (h : Int) (hn : bs ≠ []) (hm : bs.length ≤ 1000) (hb : ∀ b ∈ bs, b.ok) (kg : mayI w.g) (ke : mayI w.eps) (kh : mayI h) (he : (kickS w.g w.eps h bs).1 ≠ 0) :
    evFun T (D+12) 27 [wA w bs.length m, .agg [.int .i64 (h / 18446744073709551616), .int .u64 (h % 18446744073709551616)]] (oA bs ats) =
      some (.agg [.nils, .int .i64 (kickS w.g w.eps h bs).1], (oA bs ats).map some, []) := by
  have hl := E_momenta D w bs ats m hn hm
  obtain ⟨σ, ho, h4, h5, h6⟩ := (rout_loop D w bs ats m h hm hb kg ke kh bs.length 0 (moms bs) [13000, 4, 3, 2] 18446744073709551616 (.inl rfl) (by omega) (moms_len bs) (moms_ok hb) (by omega)).2 he
  rw [show kOut w.g w.eps h bs bs.length 0 (moms bs) = kickS w.g w.eps h bs from rfl] at h5
  generalize (kickS w.g w.eps h bs).1 = e at *
  generalize moms bs = ps0 at *
  unfold wA at *
  simp only [rS2, oA, List.map_cons, List.map_nil, Wn.cells] at hl ho
  simp only [oA, List.map_cons, List.map_nil] at h6
  unfold oA
  simp at hl ho
  clear hb hm hn
  rw [ev_fn T27]; (try simp only [Nat.add_assoc, Nat.reduceAdd] at hl ho); obtain ⟨call, hcall⟩ : ∃ call, call = evFun T (D + 11) := ⟨_, rfl⟩; rw [← hcall] at hl ho ⊢; clear hcall; simp (maxSteps := 2000000) [ir27, Wn.cells, hl, ho, h4, h5, h6]
theorem R_direct0 (D : Nat) (w : Wn) (h : Int) : evFun T (D+12) 27 [.agg (w.cells .nils .nils .nils .nils .nils), .agg [.int .i64 (h / 18446744073709551616), .int .u64 (h % 18446744073709551616)]] [] =
      some (.agg [.nils, .int .i64 0], [], []) := by
  have hl : evFun T (D+11) 68 [.agg (w.cells .nils .nils .nils .nils .nils)] [] = some (.c .nils, [], []) := by
    obtain ⟨call, hcall⟩ : ∃ call, call = evFun T (D + 10) := ⟨_, rfl⟩
    rw [ev_fn T68]
    rw [← hcall]; clear hcall
    simp (maxSteps := 2000000) [ir68, Wn.cells, ir68_l0, ir68_t0, ir68_x0, loopC_step]
  obtain ⟨call, hcall⟩ : ∃ call, call = evFun T (D + 11) := ⟨_, rfl⟩
  rw [ev_fn T27]
  rw [← hcall] at hl ⊢; clear hcall
  simp only [Wn.cells] at hl
  simp (maxSteps := 2000000) [ir27, Wn.cells, ir27_l1, ir27_t1, ir27_x1, loopC_step, hl]
end Go.Ab

namespace Go.Ab
attribute [local simp] runFn args0 e_skip e_reg regC_some e_seq seqC_n seqC_e seqC_r e_cond condC_t condC_f e_block e_loop e_exit e_ret nextC_n nextC_e nextC_r nextK_n nextK_e nextK_r evReg evOps evOp wants fp St.ev St.get St.set St.sets St.put St.apply St.pre preK inB lk up del hits V.cells V.cellsG allPlain Cell.plain pure1 keysOf okUn noK Ev.apart meets mkV splice fillC binC unC mmC eqCs eqC resVs resV one export1 V.keys V.keys1 outKeys valsKeys cellsKeys Cell.keys Blk.keys elsKeys fpCall fpCallG noTup reach getAll outW newW names srcs capsOf onesOf slB rowsOf V.ren V.ren1 Cell.ren Loc.ren locsRen Blk.ren inR outR place nm St.sweep swept St.kill killR lmap delAll St.trim reachL expR ownGet b2i_le wrap_u64 wrap_i64 bits_u64 bits_i64 or_u64 and_u64 Int.fdiv_eq_ediv_of_nonneg word mmC hits
def sv (R : List (List Cell)) : Blk := ⟨28, 4, true, true, R⟩
def sS (n : Nat) (k : Int) (ps : List Mo) : St :=
  { env := [(0, .c (.slc (.o 0) 4 0 n)), (1, .c (.slc (.o 1) 4 0 n)), (4, .c (.bool false)), (6, .c (.slc (.o 0) 4 0 n)), (7, .c (.int .i64 n)), (8, .c (.slc (.o 1) 4 0 n)), (9, .c (.int .i64 n)), (10, .c (.bool false)), (5, .c (.int .i64 k))],
    loc := [], out := [some (sv (ps.map Mo.row)), some (sv (ps.map Mo.row))], cr := [] }
theorem sv_round (call : CallF) (ps : List Mo) (k : Nat) (hk : k < ps.length) (hm : ps.length ≤ 1000) :
    ∀ K, nextK K ir28_t0 ir28_x0 (evCode call ir28_l0 (sS ps.length k ps)) = K (sS ps.length ((k + 1 : Nat) : Int) ps) := by
  intro K
  have hk' : (k : Int) < (ps.length : Int) := by omega
  have e1 : ((k : Int) + 1 + 9223372036854775808) % 18446744073709551616 - 9223372036854775808 = (k : Int) + 1 := by omega
  obtain ⟨p, hp⟩ : ∃ p, ps[k]? = some p := ⟨ps[k], by simp [hk]⟩
  simp (maxSteps := 2000000) [sS, sv, ir28_l0, ir28_t0, ir28_x0, hk, hk', e1, hp, Mo.row, -getElem?_pos, List.getElem?_cons_zero, List.getElem?_cons_succ]
def sX (n : Nat) (S : St) : St := (((S.put (some 11) (.c (.int .i64 n))).put (some 12) (.c (.slc (.o 0) 4 0 n))).put (some 13) (.c (.int .i64 n))).put (some 14) (.c (.bool false))
theorem sv_exit (call : CallF) (ps : List Mo) :
    ∀ K, nextK K ir28_t0 ir28_x0 (evCode call ir28_l0 (sS ps.length ps.length ps)) = some (.exit 0, sX ps.length (sS ps.length ps.length ps)) := by
  intro K
  simp [sS, sX, ir28_l0, ir28_t0, ir28_x0]
theorem R_samevecs (D : Nat) (ps : List Mo) (hm : ps.length ≤ 1000) : evFun T (D+1) 28 [.c (.slc (.o 0) 4 0 ps.length), .c (.slc (.o 1) 4 0 ps.length)] [sv (ps.map Mo.row), sv (ps.map Mo.row)] =
      some (.c (.bool true), [some (sv (ps.map Mo.row)), some (sv (ps.map Mo.row))], []) := by
  have hl := loop_k (call := evFun T D) (b := ir28_l0) (tr := ir28_t0) (bx := ir28_x0)
    (fun k => sS ps.length k ps) ps.length (fun k hk K => sv_round _ ps k hk hm K) (fun K => sv_exit _ ps K) 18446744073709551616 (by omega)
  simp only [sS, sX, St.put, up] at hl
  simp at hl
  unfold sv at *
  rw [ev_fn T28]; (try simp only [Nat.add_assoc, Nat.reduceAdd] at hl); obtain ⟨call, hcall⟩ : ∃ call, call = evFun T (D) := ⟨_, rfl⟩; rw [← hcall] at hl ⊢; clear hcall; simp (maxSteps := 2000000) [ir28, hl]
theorem R_samevecs0 (D : Nat) : evFun T (D+1) 28 [.c .nils, .c .nils] [] = some (.c (.bool true), [], []) := by
  obtain ⟨call, hcall⟩ : ∃ call, call = evFun T D := ⟨_, rfl⟩
  rw [ev_fn T28]
  rw [← hcall]; clear hcall
  simp (maxSteps := 2000000) [ir28, ir28_l0, ir28_t0, ir28_x0, loopC_step]
theorem made_ev (D : Nat) (ns : List Int) (how h : Int) (hns : ∀ n ∈ ns, byteI n) (kw : 0 ≤ how ∧ how ≤ 255) (kh : 0 ≤ h ∧ h ≤ 18446744073709551615) :
    evFun T (D+13) 7 [.c (.slc (.o 0) 1 0 ns.length), .c (.int .u8 how), .c (.int .u64 h)] [bytesB false ns] = some (.c (.bool true), [some (bytesB false ns)], []) := by
  have n1 := fun n => E_num (D+11) n
  have aw := ev_awake11 D
  have hok := bodiesS_ok hns 10
  by_cases h0 : (bodiesS ns 10).length = 0
  · have hw := E_world0 (D+8) false ns 10 how kw (by omega) h0
    have hk := E_kick0 (D+1) (worldS how) h
    have hd := R_direct0 D (worldS how) h
    have hs := R_samevecs0 (D+11)
    rw [(u64_fix kh).1, (u64_fix kh).2] at hk hd
    generalize worldS how = ww at *
    simp only [bytesB, Wn.cells] at hw hk hd
    simp at hw hk hd
    unfold bytesB
    rw [ev_fn T7]; (try simp only [Nat.add_assoc, Nat.reduceAdd] at n1 aw hw hk hd hs); obtain ⟨call, hcall⟩ : ∃ call, call = evFun T (D + 12) := ⟨_, rfl⟩; rw [← hcall] at n1 aw hw hk hd hs ⊢; clear hcall; simp (maxSteps := 2000000) [ir7, n1, aw, hw, hk, hd, hs, Wn.cells]
  · have hpos : 0 < (bodiesS ns 10).length := by omega
    have hlen : (bodiesS ns 10).length ≤ 1000 := by rw [bodiesS_len]; omega
    have hne : bodiesS ns 10 ≠ [] := fun q => h0 (by rw [q]; rfl)
    have hw := E_world (D+8) false ns 10 how kw (by omega) (by omega) hns hpos
    have kk : mayI h := by unfold mayI; omega
    have mg := (worldS_g how).1
    have me := (worldS_g how).2
    unfold wldB at hw
    by_cases he : (kickS (worldS how).g (worldS how).eps h (bodiesS ns 10)).1 = 0
    · have hk := E_kickA_ok (D+1) (worldS how) (bodiesS ns 10) (List.replicate (bodiesS ns 10).length [.int .i64 (-1)]) (bodiesS ns 10).length h hne hlen hok mg me kk he
      have hd := R_directA_ok D (worldS how) (bodiesS ns 10) (List.replicate (bodiesS ns 10).length [.int .i64 (-1)]) (bodiesS ns 10).length h hne hlen hok mg me kk he
      obtain ⟨hl, _, hk⟩ := hk
      have hs := R_samevecs (D+11) (kickS (worldS how).g (worldS how).eps h (bodiesS ns 10)).2 (by omega)
      rw [hl] at hs
      rw [(u64_fix kh).1, (u64_fix kh).2] at hk hd
      clear hok hl he
      generalize (kickS (worldS how).g (worldS how).eps h (bodiesS ns 10)).2 = ps at *
      generalize (bodiesS ns 10).length = N at *
      generalize bodiesS ns 10 = bs at *
      generalize worldS how = ww at *
      unfold wA oA at *
      simp only [bytesB, Wn.cells, sv] at hw hk hd hs
      simp at hw hk hd hs
      unfold bytesB
      rw [ev_fn T7]; (try simp only [Nat.add_assoc, Nat.reduceAdd] at n1 aw hw hk hd hs); obtain ⟨call, hcall⟩ : ∃ call, call = evFun T (D + 12) := ⟨_, rfl⟩; rw [← hcall] at n1 aw hw hk hd hs ⊢; clear hcall; simp (maxSteps := 2000000) [ir7, n1, aw, hw, hk, hd, hs, Wn.cells]
    · have hk := E_kickA_err (D+1) (worldS how) (bodiesS ns 10) (List.replicate (bodiesS ns 10).length [.int .i64 (-1)]) (bodiesS ns 10).length h hne hlen hok mg me kk he
      have hd := R_directA_err D (worldS how) (bodiesS ns 10) (List.replicate (bodiesS ns 10).length [.int .i64 (-1)]) (bodiesS ns 10).length h hne hlen hok mg me kk he
      have hs := R_samevecs0 (D+11)
      rw [(u64_fix kh).1, (u64_fix kh).2] at hk hd
      clear hok
      generalize (kickS (worldS how).g (worldS how).eps h (bodiesS ns 10)).1 = e at *
      generalize (bodiesS ns 10).length = N at *
      generalize bodiesS ns 10 = bs at *
      generalize worldS how = ww at *
      have he' : (e != 0) = true := by simpa using he
      unfold wA oA at *
      simp only [bytesB, Wn.cells] at hw hk hd
      simp at hw hk hd
      unfold bytesB
      rw [ev_fn T7]; (try simp only [Nat.add_assoc, Nat.reduceAdd] at n1 aw hw hk hd hs); obtain ⟨call, hcall⟩ : ∃ call, call = evFun T (D + 12) := ⟨_, rfl⟩; rw [← hcall] at n1 aw hw hk hd hs ⊢; clear hcall; simp (maxSteps := 2000000) [ir7, n1, aw, hw, hk, hd, hs, he', Wn.cells]
end Go.Ab
