/- The writer's other functions: a new one, numbers of one and four bytes, all bytes. -/
import Derived.Test.YtfeljngmidhajaaPackW
namespace Go.Proofs.Ytfeljngmidhajaa
open Go.RowKit Go.Mine

set_option maxRecDepth 100000 in
theorem newWriter_any (w : World) : Calls Try.prog 43 #[] w fun e w' => e = .returned (pt w.heap.size) ∧ Wr w' (fun b => w.heap.size ≤ b) w.heap.size [] ∧ Turned (fun _ => False) w w' ∧ w'.heap.size = w.heap.size + 1 := by
  go_enter Try.func43, Try.ntmps43
  go_wp2
  go_ret
  refine ⟨rfl, ⟨Nat.le_refl _, .slice none 0 0, fun _ => False, ?_, Sl.nil _ _ _ _, fun q => q, fun _ q => q.elim⟩, Turned.alloc _ _ _, by simp⟩
  exact heap_alloc_last w _

set_option maxRecDepth 100000 in
theorem u8_any {S : Nat → Prop} {p : Nat} {bs : List UInt8} (v : Nat) (w : World) (h : Wr w S p bs) (hv : v < 256) (hL : bs.length + 1 ≤ 1099511627776) :
    Calls Try.prog 45 #[pt p, .int .u8 v] w fun e w' => e = .returned (.tuple #[]) ∧ Wr w' (More S w) p (bs ++ num v 1) ∧ Turned S w w' := by
  have hf : Calls Try.prog 76 #[pt p, .int .u64 v, .int .i64 1] w fun e w' => e = .returned (.tuple #[]) ∧ Wr w' (More S w) p (bs ++ num v 1) ∧ Turned S w w' := fixed_any v 1 w h (by omega) (by omega) hL
  have hm : ((v : Int) % 18446744073709551616) = v := by omega
  clear h hv hL
  go_enter Try.func45, Try.ntmps45
  go_wp2_with (go_at_call 76; (with_reducible refine hf.mono ?_); rintro e w2 ⟨rfl, hw, ht⟩)
  go_end0
  exact ⟨rfl, hw, ht⟩

set_option maxRecDepth 100000 in
theorem u32_any {S : Nat → Prop} {p : Nat} {bs : List UInt8} (v : Nat) (w : World) (h : Wr w S p bs) (hv : v < 4294967296) (hL : bs.length + 4 ≤ 1099511627776) :
    Calls Try.prog 46 #[pt p, .int .u32 v] w fun e w' => e = .returned (.tuple #[]) ∧ Wr w' (More S w) p (bs ++ num v 4) ∧ Turned S w w' := by
  have hf : Calls Try.prog 76 #[pt p, .int .u64 v, .int .i64 4] w fun e w' => e = .returned (.tuple #[]) ∧ Wr w' (More S w) p (bs ++ num v 4) ∧ Turned S w w' := fixed_any v 4 w h (by omega) (by omega) hL
  have hm : ((v : Int) % 18446744073709551616) = v := by omega
  clear h hv hL
  go_enter Try.func46, Try.ntmps46
  go_wp2_with (go_at_call 76; (with_reducible refine hf.mono ?_); rintro e w2 ⟨rfl, hw, ht⟩)
  go_end0
  exact ⟨rfl, hw, ht⟩

theorem sl_back {w : World} {R : Nat → Prop} {v : Value} {bs : List UInt8} (h : Sl w R 5 1 v (bcells bs) bs.length) : (convert 51 9 v).run Try.prog w = .ok (.string ⟨bs.toArray⟩) w := by
  rcases h.2 with ⟨rfl, hn⟩ | ⟨g, off, cap, cur, rfl, -, hg, hnc, hcm, hcs, htake⟩
  · have : bs = [] := List.eq_nil_of_length_eq_zero hn
    subst this
    exact run_convert_bytes_nil w 51 5 Try.underlying51 Try.underlying5 0 0 9 Try.underlying9
  · refine run_convert_bytes_back (P := Try.prog) w 51 9 5 ⟨g, off, none⟩ cap bs Try.underlying51 Try.underlying5 Try.underlying9 fun j hj => ?_
    rw [Addr.add_lit, cell_of_row _ _ _ _ _ _ hg]
    have h1 : ((cur.toList.drop off).take (bs.length * 1))[j]? = some (.int .u8 (bs[j].toNat : Nat)) := by
      rw [htake]
      simp [bcells, hj]
    rw [List.getElem?_take, if_pos (by omega), List.getElem?_drop] at h1
    simpa using h1

set_option maxRecDepth 100000 in
theorem bytes_any {S : Nat → Prop} {p : Nat} {bs : List UInt8} (w : World) (h : Wr w S p bs) :
    Calls Try.prog 48 #[pt p] w fun e w' => e = .returned (.string ⟨bs.toArray⟩) ∧ w = w' := by
  obtain ⟨hp, v, R, hb, hsl, hpR, hR⟩ := h
  have hc := cell_of hb 0 _ rfl
  have hlt := lt_of_block hb
  have hbk := sl_back hsl
  clear hp hpR hR hb hsl
  go_enter Try.func48, Try.ntmps48
  go_wp2
  go_ret
  exact ⟨rfl, rfl⟩
end Go.Proofs.Ytfeljngmidhajaa
